import Derived.Test.YtepbdjpcoleegaaCmM
import Derived.Test.YtepbdjpcoleegaaCmB
import Derived.Test.YtepbdjpcoleegaaPk3
import Derived.Test.YtepbdjpcoleegaaIdnSrt7
import Derived.Test.YtepbdjpcoleegaaEv
import Derived.Test.YtepbdjpcoleegaaDraw

/- common.Pairs, by the evaluator. -/
set_option linter.unusedSimpArgs false
set_option linter.unusedVariables false
namespace Go.Proofs.Ytepbdjpcoleegaa
open Go.Sort Eng
theorem par_0 (d : Array Par) (i : Nat) : parRd d i 0 = .i .u32 d[i]!.a := rfl
theorem par_1 (d : Array Par) (i : Nat) : parRd d i 1 = .i .u32 d[i]!.b := rfl
theorem tl_get (T : List Eng.Own) (x : Eng.Own) : (T ++ [x])[T.length]? = some x := List.getElem?_concat_length
theorem tl_set (T : List Eng.Own) (x y : Eng.Own) : (T ++ [x]).set T.length y = T ++ [y] := by rw [List.set_append_right _ _ (Nat.le_refl _), Nat.sub_self]; rfl
theorem idn_app {ys : List Idn} {x : Idn} {cs : List SV} (h : cs = Idn.cs x) : rdEq (ys.length + 1) 3 (rdCat ys.length (idnRd ys.toArray) (rdL cs 3)) (idnRd (ys ++ [x]).toArray) := by
  subst h
  refine rdEq_snoc (fun i j hi hj => ?_) (fun j hj => ?_)
  · unfold idnRd
    simp [getElem!_def, List.getElem?_append, hi]
  · unfold idnRd
    simp [getElem!_def]
structure Grp where
  p : Par
  ids : List Idn
  a : Option Addr
  cap : Nat
instance : Inhabited Grp := ⟨⟨default, [], none, 0⟩⟩
def Grp.row (g : Grp) : Eng.Own := idnRow g.a g.ids.length g.cap g.ids.toArray
def Grp.val (g : Grp) : SV := .os 0 g.a g.ids.length g.cap
def Grp.pair (g : Grp) : Par × List Idn := (g.p, g.ids)
def gKey (X : List Grp) (i : Nat) : List Int := (X.getD i default).p.keys
def gVal (X : List Grp) (i : Nat) : SV := (X.getD i default).val
theorem gKey_inj {X : List Grp} (h : ((X.map Grp.pair).map (·.1)).Nodup) {i j : Nat} (hi : i < X.length) (hj : j < X.length) (he : (X.getD i default).p = (X.getD j default).p) : i = j := by
  have g : ∀ k, k < X.length → ((X.map Grp.pair).map (·.1))[k]? = some (X.getD k default).p := fun k hk => by
    simp [List.getD, hk, Grp.pair]
  have hl : ((X.map Grp.pair).map (·.1)).length = X.length := by simp
  have h1 := g i hi
  have h2 := g j hj
  rw [he, ← h2] at h1
  exact (List.getElem?_inj (by omega) h).1 h1
structure Evd where
  kind : Int
  a : Int
  b : Int
  ids : List Idn
  ad : Option Addr
  cap : Nat
instance : Inhabited Evd := ⟨⟨0, 0, 0, [], none, 0⟩⟩
def Evd.cs (e : Evd) : List SV := [.i .i64 e.kind, .i .u32 e.a, .i .u32 e.b, .sl e.ad e.ids.length e.cap 3 (idnRd e.ids.toArray)]
def evRd (es : List Evd) : Nat → Nat → SV := fun i j => (Evd.cs (es.getD i default)).getD j default
theorem idn_sorted {L : List Idn} {d' : Array Idn} (hd : d'.size = L.length) (hp : PermIn 0 L.length L.toArray d') (hs : SortedIn idnLt 0 L.length d') : d'.toList.Perm L ∧ d'.toList.Pairwise fun a b => idnLt b a = false := by
  have h := hp.2.2
  have e1 : (d'.extract 0 L.length) = d' := by rw [← hd]; simp
  have e2 : (L.toArray.extract 0 L.length) = L.toArray := by simp
  rw [e1, e2] at h
  refine ⟨by simpa using h, ?_⟩
  rw [List.pairwise_iff_getElem]
  intro i j hi hj hij
  have hi' : i < d'.size := by simpa using hi
  have hj' : j < d'.size := by simpa using hj
  have := hs i j (Nat.zero_le _) hij (by omega)
  simpa [getElem!_def, hi', hj'] using this
theorem nodup_fst {G : List (Par × List Idn)} (h : (G.map (·.1)).Nodup) {p : Par} {l m : List Idn} (h1 : (p, l) ∈ G) (h2 : (p, m) ∈ G) : l = m := by
  induction G with
  | nil => cases h1
  | cons g G ih =>
    simp only [List.map_cons, List.nodup_cons] at h
    rcases List.mem_cons.1 h1 with e1 | e1 <;> rcases List.mem_cons.1 h2 with e2 | e2
    · rw [← e1] at e2; exact (Prod.mk.injEq .. ▸ e2).2.symm
    · exact absurd (List.mem_map.2 ⟨_, e2, by rw [← e1]⟩) h.1
    · exact absurd (List.mem_map.2 ⟨_, e1, by rw [← e2]⟩) h.1
    · exact ih h.2 e1 e2
def evOk (G : List (Par × List Idn)) (p : Par) (e : Evd) : Prop := e.kind = 1 ∧ e.a = p.a ∧ e.b = p.b ∧ (e.ids.Pairwise fun x y => idnLt x y = true) ∧ (∀ d, d ∈ e.ids ↔ ∃ l, (p, l) ∈ G ∧ d ∈ l) ∧ e.ids.length ≤ 512
def leftT (X : List Grp) (V : List Par) : List Eng.Own := X.map fun g => if g.p ∈ V then .gone else g.row
def Evd.pr (e : Evd) : Par := ⟨e.a, e.b⟩
theorem showR_valid {r : Res} {p : Par} (h : showR r = some p) : validR r = true := by
  unfold showR at h
  split at h
  · rename_i hc
    have := hc.2.2.2
    simp only [usableR, Bool.and_eq_true] at this
    exact this.2
  · cases h
structure PairsOf (xs : List Res) (es : List Evd) : Prop where
  asc : es.Pairwise fun x y => parLt x.pr y.pr = true
  each : ∀ e ∈ es, e.kind = 1 ∧ (e.ids.Pairwise fun x y => idnLt x y = true) ∧ e.ids ≠ [] ∧ e.ids.length ≤ 512
  mem : ∀ p d, (∃ e ∈ es, e.pr = p ∧ d ∈ e.ids) ↔ ∃ r ∈ xs, showR r = some p ∧ r.idn = d
  len : es.length ≤ xs.length
theorem pairsOf_mk {xs ys : List Res} {X : List Grp} {L : List Par} {es : List Evd} (hord : OrdOf xs ys) (hyl : ys.length ≤ xs.length) (hG : GrpOk ys (X.map Grp.pair)) (hL : ParSorted (X.map Grp.p) L) (hlen : es.length = L.length)
    (hes : ∀ q, q < L.length → evOk (X.map Grp.pair) (L.getD q default) (es.getD q default)) : PairsOf xs es := by
  have hpn : (X.map Grp.p).Nodup := by have := hG.nodup; rwa [List.map_map] at this
  have hLn : L.Nodup := hL.1.nodup_iff.2 hpn
  have at_ : ∀ q, (h : q < es.length) → evOk (X.map Grp.pair) (L[q]'(by omega)) es[q] := fun q h => by
    have := hes q (by omega)
    rwa [List.getD_eq_getElem?_getD, List.getElem?_eq_getElem (show q < L.length by omega), List.getD_eq_getElem?_getD, List.getElem?_eq_getElem h] at this
  have pr_ : ∀ q, (h : q < es.length) → es[q].pr = L[q]'(by omega) := fun q h => by
    obtain ⟨_, h1, h2, _⟩ := at_ q h
    unfold Evd.pr
    rw [h1, h2]
  have key : ∀ p, p ∈ L → ∃ l, (p, l) ∈ X.map Grp.pair ∧ l ≠ [] := fun p hp => by
    obtain ⟨g, hg, rfl⟩ := List.mem_map.1 (hL.1.mem_iff.1 hp)
    have hm : g.pair ∈ X.map Grp.pair := List.mem_map.2 ⟨g, hg, rfl⟩
    exact ⟨g.ids, hm, hG.ne _ hm⟩
  refine ⟨?_, ?_, fun p d => ⟨?_, ?_⟩, ?_⟩
  · rw [List.pairwise_iff_getElem]
    intro i j hi hj hij
    rw [pr_ i hi, pr_ j hj]
    have h1 := List.pairwise_iff_getElem.1 hL.2 i j (by omega) (by omega) hij
    rcases parLt_total (L[i]'(by omega)) (L[j]'(by omega)) with h | h | h
    · exact h
    · have := (List.getElem?_inj (j := j) (show i < L.length by omega) hLn).1 (by rw [List.getElem?_eq_getElem (by omega), List.getElem?_eq_getElem (by omega), h])
      omega
    · rw [h1] at h; cases h
  · intro e he
    obtain ⟨q, hq, rfl⟩ := List.getElem_of_mem he
    obtain ⟨h1, _, _, h2, h3, h4⟩ := at_ q hq
    refine ⟨h1, h2, fun e0 => ?_, h4⟩
    obtain ⟨l, hl, hne⟩ := key _ (List.getElem_mem (show q < L.length by omega))
    obtain ⟨d, hd⟩ := List.exists_mem_of_ne_nil l hne
    have := (h3 d).2 ⟨l, hl, hd⟩
    rw [e0] at this
    cases this
  · rintro ⟨e, he, rfl, hd⟩
    obtain ⟨q, hq, rfl⟩ := List.getElem_of_mem he
    obtain ⟨_, _, _, _, h3, _⟩ := at_ q hq
    obtain ⟨r, hr, h5⟩ := (hG.mem _ _).1 ((h3 d).1 hd)
    rw [pr_ q hq]
    exact ⟨r, ((hord.2 r).1 hr).1, h5⟩
  · rintro ⟨r, hr, hs, hd⟩
    have hry : r ∈ ys := (hord.2 r).2 ⟨hr, showR_valid hs⟩
    obtain ⟨l, hl, hdl⟩ := (hG.mem p d).2 ⟨r, hry, hs, hd⟩
    obtain ⟨g, hg, hgp⟩ := List.mem_map.1 hl
    have hpL : p ∈ L := hL.1.mem_iff.2 (List.mem_map.2 ⟨g, hg, (Prod.mk.injEq .. ▸ hgp).1⟩)
    obtain ⟨q, hq, hqp⟩ := List.getElem_of_mem hpL
    have hqe : q < es.length := by omega
    obtain ⟨_, _, _, _, h3, _⟩ := at_ q hqe
    exact ⟨es[q], List.getElem_mem _, (pr_ q hqe).trans hqp, (h3 d).2 ⟨l, by rw [hqp]; exact hl, hdl⟩⟩
  · have h1 := hL.1.length_eq
    have h2 := hG.len
    simp only [List.length_map] at h1 h2
    omega
set_option maxHeartbeats 2000000 in
set_option maxRecDepth 100000 in
theorem pairsC (F : Frm) (ad : Option Addr) (cap : Nat) (xs : List Res) (hl : xs.length ≤ 512) (hin : ∀ r ∈ xs, RgR r) :
    Contract F Try.prog 11 [.sl ad xs.length cap 17 (resRd xs.toArray)] (fun r => (xs.any (fun x => !validR x) = true ∧ ∃ rd, r = tupL [.sl none 0 0 0 rd, .i .i64 1]) ∨
      (xs.any (fun x => !validR x) = false ∧ ∃ a cap es, PairsOf xs es ∧ r = tupL [.sl a es.length cap 4 (evRd es), .i .i64 0])) := by
  refine contract_of Try.func11 rfl (by kernel_rfl) ?_
  simp only [Try.ntmps11, argEnv]
  (repeat refine Sat.seq ?_)
  (refine Sat.region_k fun k hk => ?_; simp -implicitDefEqProofs only [evr, id, seval, res_one, par_one, idn_one, par_0, par_1, resRow, res_ro, tl_get, tl_set, rExtract_tup, evn]; refine hk _ ?_; clear hk k; try show Sat _ _ _ _ _)
  (repeat refine Sat.seq ?_)
  (refine Sat.region_k fun k hk => ?_; simp -implicitDefEqProofs only [evr, id, seval, res_one, par_one, idn_one, par_0, par_1, resRow, res_ro, tl_get, tl_set, rExtract_tup, evn])
  refine wcall_plain (containsFuncC F _ _ _ pairsFnC ad cap xs (by omega)) (by simp -implicitDefEqProofs only [evr, id, seval, res_one, par_one, idn_one, par_0, par_1, resRow, res_ro, tl_get, tl_set, rExtract_tup, evn]; try rfl) (by rintro _ rfl; exact ok_plain rfl) ?_
  rintro r rfl
  simp -implicitDefEqProofs only [evr, id, seval, res_one, par_one, idn_one, par_0, par_1, resRow, res_ro, tl_get, tl_set, rExtract_tup, evn]
  (refine hk _ ?_; clear hk k; try show Sat _ _ _ _ _)
  (repeat refine Sat.seq ?_)
  refine Sat.cond_b rfl (fun h => ?_) (fun h => ?_)
  · (repeat refine Sat.seq ?_)
    (refine Sat.region_k fun k hk => ?_; simp -implicitDefEqProofs only [evr, id, seval, res_one, par_one, idn_one, par_0, par_1, resRow, res_ro, tl_get, tl_set, rExtract_tup, evn]; refine hk _ ?_; clear hk k; try show Sat _ _ _ _ _)
    refine Sat.ret ?_
    simp only [Try.results11, evr, id, seval, res_one, par_one, idn_one, par_0, par_1, List.append_nil, Int.toNat_zero, Nat.sub_self, Int.reduceToNat, resRow, res_ro, tl_get, tl_set, rExtract_tup]
    exact .inl ⟨h, _, rfl⟩
  refine Sat.skip ?_
  simp only [thenK]
  (repeat refine Sat.seq ?_)
  (refine Sat.region_k fun k hk => ?_; simp -implicitDefEqProofs only [evr, id, seval, res_one, par_one, idn_one, par_0, par_1, resRow, res_ro, tl_get, tl_set, rExtract_tup, evn])
  refine wcall_new (orderC F ad cap xs (by omega) hin) rfl (by simp -implicitDefEqProofs only [evr, id, seval, res_one, par_one, idn_one, par_0, par_1, resRow, res_ro, tl_get, tl_set, rExtract_tup, evn]; try rfl) ?_
  rintro a ty len cap2 sz rd2 ⟨ya, yc, ys, hord, hyl, e⟩
  simp only [resRow, Eng.Own.row.injEq] at e
  obtain ⟨rfl, rfl, rfl, rfl, rfl, rfl⟩ := e
  simp -implicitDefEqProofs only [evr, id, seval, res_one, par_one, idn_one, par_0, par_1, resRow, res_ro, tl_get, tl_set, rExtract_tup, evn]
  (refine hk _ ?_; clear hk k; try show Sat _ _ _ _ _)
  (repeat refine Sat.seq ?_)
  (refine Sat.region_k fun k hk => ?_; simp -implicitDefEqProofs only [evr, id, seval, res_one, par_one, idn_one, par_0, par_1, resRow, res_ro, tl_get, tl_set, rExtract_tup, evn]; refine hk _ ?_; clear hk k; try show Sat _ _ _ _ _)
  (repeat refine Sat.seq ?_)
  refine Sat.cond_b rfl (fun h2 => ?_) (fun h2 => ?_)
  · simp only [decide_eq_true_eq] at h2
    omega
  refine Sat.skip ?_
  simp only [thenK]
  refine Sat.settle2 4 rfl rfl ?_
  (repeat refine Sat.seq ?_)
  have hT : mqT Try.prog 78 = some (false, [.u32, .u32], 35) := by kernel_rfl
  (refine Sat.region_k fun k hk => ?_; simp -implicitDefEqProofs only [evr, id, seval, res_one, par_one, idn_one, par_0, par_1, resRow, res_ro, tl_get, tl_set, rExtract_tup, evn])
  refine makeMq hT (show 22 < 71 by decide) fun mb => ?_
  simp -implicitDefEqProofs only [evr, id, seval, res_one, par_one, idn_one, par_0, par_1, resRow, res_ro, tl_get, tl_set, rExtract_tup, evn]
  (refine hk _ ?_; clear hk k; try show Sat _ _ _ _ _)
  (repeat refine Sat.seq ?_)
  (refine Sat.region_k fun k hk => ?_; simp -implicitDefEqProofs only [evr, id, seval, res_one, par_one, idn_one, par_0, par_1, resRow, res_ro, tl_get, tl_set, rExtract_tup, evn]; refine hk _ ?_; clear hk k; try show Sat _ _ _ _ _)
  (repeat refine Sat.seq ?_)
  refine Sat.block ?_
  refine Sat.loop (ι := Nat × List Grp) (fun z => ⟨71, [(25, .i .i64 z.1), (24, .i .i64 ys.length), (23, .sl a ys.length cap2 17 (resRd ys.toArray)), (5, .mp 1 mb)], .gone :: .mq mb false [.u32, .u32] z.2.length (gKey z.2) (gVal z.2) :: z.2.map Grp.row⟩)
    (fun z => z.1 ≤ ys.length ∧ z.2.map Grp.pair = grpOf (ys.take z.1)) (fun z => ys.length - z.1) (0, []) ⟨Nat.zero_le _, rfl⟩ (by
      simp only [List.map_nil, List.length_nil]
      simp -implicitDefEqProofs only [evr, id, seval, res_one, par_one, idn_one, par_0, par_1, resRow, res_ro, tl_get, tl_set, rExtract_tup, evl, evn]
      first | exact ⟨rfl, fun i hi => absurd hi (Nat.not_lt_zero _)⟩ | exact fun i hi => absurd hi (Nat.not_lt_zero _)) ?_
  rintro ⟨i, X⟩ ⟨hi, hX⟩
  simp only at hi hX ⊢
  have hG := grpOk_take ys i hi
  rw [← hX] at hG
  have hXl : X.length ≤ 512 := by
    have := hG.len
    simp only [List.length_map, List.length_take] at this
    omega
  (repeat refine Sat.seq ?_)
  (refine Sat.region_k fun k hk => ?_; simp -implicitDefEqProofs only [evr, id, seval, res_one, par_one, idn_one, par_0, par_1, resRow, res_ro, tl_get, tl_set, rExtract_tup, evn]; refine hk _ ?_; clear hk k; try show Sat _ _ _ _ _)
  (repeat refine Sat.seq ?_)
  refine Sat.cond_b rfl (fun h3 => ?_) (fun h3 => ?_)
  · have hlt : i < ys.length := by simp only [decide_eq_true_eq] at h3; omega
    have e1 : IntKind.i64.wrap ((i : Int) + 1) = ((i + 1 : Nat) : Int) := by rw [w64 (by omega)]; omega
    have hstep := grpOf_take ys i hlt
    rw [← hX] at hstep
    have hyi : ys.toArray[i]! = ys[i] := by simp [getElem!_def, hlt]
    refine Sat.skip ?_
    simp only [thenK]
    (repeat refine Sat.seq ?_)
    refine Sat.block ?_
    (repeat refine Sat.seq ?_)
    obtain ⟨T, hTd⟩ : ∃ T, T = X.map Grp.row := ⟨_, rfl⟩
    rw [← hTd]
    have hTl : T.length = X.length := by rw [hTd, List.length_map]
    (refine Sat.region_k fun k hk => ?_; simp -implicitDefEqProofs only [evr, id, seval, res_one, par_one, idn_one, par_0, par_1, resRow, res_ro, tl_get, tl_set, rExtract_tup, evn])
    refine ⟨by omega, fun b7 => ?_⟩
    (refine hk _ ?_; clear hk k; try show Sat _ _ _ _ _)
    refine Sat.settleLast (.gone :: .mq mb false [.u32, .u32] X.length (gKey X) (gVal X) :: T) 7 rfl ?_
    simp only [List.length_cons, List.length_nil]
    (repeat refine Sat.seq ?_)
    (refine Sat.region_k fun k hk => ?_; simp -implicitDefEqProofs only [evr, id, seval, res_one, par_one, idn_one, par_0, par_1, resRow, res_ro, tl_get, tl_set, rExtract_tup, evn])
    refine wcall_plain (showC F ys.toArray[i]!) rfl (by rintro _ rfl; exact showS_ok _) ?_
    rintro _ rfl
    obtain ⟨r, hr⟩ : ∃ r, r = ys.toArray[i]! := ⟨_, rfl⟩
    rw [← hyi, ← hr] at hstep
    rw [← hr]
    unfold grpStep at hstep
    cases hs : showR r with
    | none =>
      rw [hs] at hstep
      simp only at hstep
      simp only [showS, tupL, parAg, Par.cs, evr, id, seval, res_one, par_one, idn_one, par_0, par_1, List.append_nil, Int.toNat_zero, Nat.sub_self, Int.reduceToNat, resRow, res_ro, tl_get, tl_set, rExtract_tup]
      intro b8
      (refine hk _ ?_; clear hk k; try show Sat _ _ _ _ _)
      refine Sat.settleLast (.gone :: .mq mb false [.u32, .u32] X.length (gKey X) (gVal X) :: T) 8 rfl ?_
      simp only [List.length_cons, List.length_nil]
      (repeat refine Sat.seq ?_)
      (refine Sat.region_k fun k hk => ?_; simp -implicitDefEqProofs only [evr, id, seval, res_one, par_one, idn_one, par_0, par_1, resRow, res_ro, tl_get, tl_set, rExtract_tup, evn]; refine hk _ ?_; clear hk k; try show Sat _ _ _ _ _)
      (repeat refine Sat.seq ?_)
      refine Sat.cond_b rfl (fun h => absurd h (by decide)) (fun _ => ?_)
      refine Sat.skip ?_
      simp only [thenK, blockK, reduceIte]
      refine Sat.region_k fun k hk => ?_
      simp -implicitDefEqProofs only [evr, id, seval, res_one, par_one, idn_one, par_0, par_1, resRow, res_ro, tl_get, tl_set, rExtract_tup, e1, evn]
      refine hk _ ?_
      simp only [thenK, blockK]
      refine ⟨(i + 1, X), ⟨by simp only; omega, hstep.symm⟩, by simp only; omega, ?_⟩
      rw [hTd]
      simp -implicitDefEqProofs only [evr, id, seval, res_one, par_one, idn_one, par_0, par_1, resRow, res_ro, tl_get, tl_set, rExtract_tup, evl, evn]
      exact ownLe_refl _
    | some p =>
      rw [hs] at hstep
      simp only at hstep
      simp only [showS, tupL, parAg, Par.cs, evr, id, seval, res_one, par_one, idn_one, par_0, par_1, List.append_nil, Int.toNat_zero, Nat.sub_self, Int.reduceToNat, resRow, res_ro, tl_get, tl_set, rExtract_tup]
      intro b8
      (refine hk _ ?_; clear hk k; try show Sat _ _ _ _ _)
      refine Sat.settleLast (.gone :: .mq mb false [.u32, .u32] X.length (gKey X) (gVal X) :: T) 8 rfl ?_
      simp only [List.length_cons, List.length_nil]
      (repeat refine Sat.seq ?_)
      (refine Sat.region_k fun k hk => ?_; simp -implicitDefEqProofs only [evr, id, seval, res_one, par_one, idn_one, par_0, par_1, resRow, res_ro, tl_get, tl_set, rExtract_tup, evn]; refine hk _ ?_; clear hk k; try show Sat _ _ _ _ _)
      (repeat refine Sat.seq ?_)
      refine Sat.cond_b rfl (fun _ => ?_) (fun h => absurd h (by decide))
      rcases Classical.em (∃ j, j < X.length ∧ (X.getD j default).p = p) with ⟨j, hj, hjp⟩ | hno
      · obtain ⟨g, hg⟩ : ∃ g, g = X.getD j default := ⟨_, rfl⟩
        have hXj : X[j]? = some g := by rw [hg, List.getD_eq_getElem?_getD, List.getElem?_eq_getElem hj]; rfl
        have hTj : T[j]? = some g.row := by rw [hTd, List.getElem?_map, hXj]; rfl
        refine Sat.pull j hTj ?_
        obtain ⟨T1, hT1⟩ : ∃ T1, T1 = T.set j Eng.Own.gone := ⟨_, rfl⟩
        rw [← hT1]
        simp only [Grp.row, idnRow]
        (repeat refine Sat.seq ?_)
        (refine Sat.region_rows [⟨0, 36, 32, 0⟩, ⟨0, 37, 256, 1⟩, ⟨0, 39, 128, 1⟩, ⟨4, 40, 274877906944, 2⟩, ⟨8, 41, 549755813888, 2⟩, ⟨31, 42, 103079215104, 2⟩, ⟨32, 38, 2199023255552, 0⟩, ⟨112, 43, 1236950581248, 2⟩, ⟨32, 44, 2199023255552, 0⟩, ⟨511, 0, 13228499271680, 2⟩] [0, 1, 2] [(3, false), (4, false), (5, false), (6, true), (8, true), (7, false), (9, false)] [3, 4] (by kernel_rfl) (by kernel_rfl) (fun _ _ h => h) fun k hk => ?_; simp only [List.map_cons, List.map_nil, List.getD_cons_zero, List.getD_cons_succ, btseq_cons, btseq_free, btseq_nil]; simp -implicitDefEqProofs only [evr, id, seval, res_one, par_one, idn_one, par_0, par_1, resRow, res_ro, tl_get, tl_set, rExtract_tup, evn])
        refine wcall_plain (identC F ys.toArray[i]!) rfl (by rintro _ rfl; intro R w q hq; rcases (show q = 0 ∨ q = 1 ∨ q = 2 by omega) with rfl | rfl | rfl <;> trivial) ?_
        rintro _ rfl
        rw [← hr]
        simp only [idAg, evr, id, seval, res_one, par_one, idn_one, par_0, par_1, List.append_nil, Int.toNat_zero, Nat.sub_self, Int.reduceToNat, resRow, res_ro, tl_get, tl_set, rExtract_tup]
        refine ⟨by rw [List.take_length], fun bs => ⟨by rw [List.take_left], ?_⟩⟩
        refine entryMq (id := 1) (l := p.keys) hT rfl rfl rfl rfl (.sl none 0 0 0 fun _ _ => .v undef) (by kernel_rfl) (fun R w => ⟨Nat.le_refl _, Nat.zero_le _, .inl rfl⟩) (show 41 < 71 by decide) (fun j2 hj2 hk2 => ?_) (fun hno => ?_)
        · obtain rfl : j2 = j := gKey_inj hG.nodup hj2 hj (by rw [hjp]; exact parKeys_inj hk2)
          have hgv : gVal X j2 = .os 0 g.a g.ids.length g.cap := by unfold gVal Grp.val; rw [← hg]
          rw [hgv]
          have hgm : g.pair ∈ X.map Grp.pair := List.mem_map.2 ⟨g, List.mem_of_getElem? hXj, rfl⟩
          have hgl : g.ids.length ≤ 512 := by
            have := hG.lens _ hgm
            rw [List.length_take] at this
            have h9 : g.pair.2 = g.ids := rfl
            rw [h9] at this
            omega
          simp -implicitDefEqProofs only [evr, id, seval, res_one, par_one, idn_one, par_0, par_1, resRow, res_ro, tl_get, tl_set, rExtract_tup, evn]
          refine ⟨⟨by unfold maxLen; omega, by omega⟩, fun a3 c3 => ?_⟩
          refine storeMq (id := 1) rfl rfl rfl hj rfl trivial ?_
          simp -implicitDefEqProofs only [evr, id, seval, res_one, par_one, idn_one, par_0, par_1, resRow, res_ro, tl_get, tl_set, rExtract_tup, evn]
          refine hk _ ?_
          clear hk k
          simp only [thenK, blockK]
          refine Sat.cutOwn (.row a3 56 (g.ids.length + 1) c3 3 (rdCat g.ids.length (idnRd g.ids.toArray) (rdL [SV.i .i64 r.vantage, SV.i .i64 r.run, SV.i .i64 r.number] 3)) :: .mq mb false [.u32, .u32] X.length (gKey X) (fun q => if q = j2 then .os 0 a3 (g.ids.length + 1) c3 else gVal X q) :: T1) ?_
          obtain ⟨X2, hX2d⟩ : ∃ X2, X2 = X.set j2 ⟨p, g.ids ++ [r.idn], a3, c3⟩ := ⟨_, rfl⟩
          have hX2l : X2.length = X.length := by rw [hX2d, List.length_set]
          have hX2g : ∀ q, q < X.length → X2.getD q default = if q = j2 then ⟨p, g.ids ++ [r.idn], a3, c3⟩ else X.getD q default := fun q hq => by
            rw [hX2d, List.getD_eq_getElem?_getD, List.getElem?_set, List.getD_eq_getElem?_getD]
            by_cases e : q = j2
            · subst e; simp [hq]
            · simp [e, Ne.symm e]
          have hX2 : X2.map Grp.pair = grpOf (ys.take (i + 1)) := by
            rw [hstep, grpAdd_hit (l := g.ids) hG.nodup (by rw [List.getElem?_map, hXj, Option.map_some]; show some (g.p, g.ids) = _; rw [hg, hjp]), hX2d, List.map_set]
            rfl
          refine Sat.leOwn (own' := Grp.row ⟨p, g.ids ++ [r.idn], a3, c3⟩ :: .mq mb false [.u32, .u32] X2.length (gKey X2) (gVal X2) :: T1) ⟨⟨rfl, rfl, by simp, rfl, rfl, idn_app rfl⟩, ⟨rfl, rfl, rfl, hX2l.symm, fun q hq => ?_⟩, ownLe_refl _⟩ ?_
          · unfold gKey gVal
            rw [hX2g q hq]
            by_cases e : q = j2
            · subst e
              simp only [if_true]
              exact ⟨by rw [hjp], by simp [Grp.val]⟩
            · simp only [e, if_false]
              exact ⟨trivial, trivial⟩
          refine Sat.push j2 (by rw [hT1, List.getElem?_set_self (by rw [hTl]; exact hj)]) ?_
          have hT2 : T1.set j2 (Grp.row ⟨p, g.ids ++ [r.idn], a3, c3⟩) = X2.map Grp.row := by rw [hT1, List.set_set, hTd, hX2d, List.map_set]
          rw [hT2]
          refine Sat.region_k fun k hk => ?_
          simp -implicitDefEqProofs only [evr, id, seval, res_one, par_one, idn_one, par_0, par_1, resRow, res_ro, tl_get, tl_set, rExtract_tup, e1, evn]
          refine hk _ ?_
          simp only [thenK, blockK]
          refine ⟨(i + 1, X2), ⟨by simp only; omega, hX2⟩, by simp only; omega, ?_⟩
          simp -implicitDefEqProofs only [evr, id, seval, res_one, par_one, idn_one, par_0, par_1, resRow, res_ro, tl_get, tl_set, rExtract_tup, evl, evn]
          exact ownLe_refl _
        · exact absurd (by unfold gKey; rw [hjp]) (hno j hj)
      · refine Sat.nilAt 0 56 3 (idnRd #[]) rfl ?_
        simp only [List.set_cons_zero]
        (repeat refine Sat.seq ?_)
        (refine Sat.region_rows [⟨0, 36, 32, 0⟩, ⟨0, 37, 256, 1⟩, ⟨0, 39, 128, 1⟩, ⟨4, 40, 274877906944, 2⟩, ⟨8, 41, 549755813888, 2⟩, ⟨31, 42, 103079215104, 2⟩, ⟨32, 38, 2199023255552, 0⟩, ⟨112, 43, 1236950581248, 2⟩, ⟨32, 44, 2199023255552, 0⟩, ⟨511, 0, 13228499271680, 2⟩] [0, 1, 2] [(3, false), (4, false), (5, false), (6, true), (8, true), (7, false), (9, false)] [3, 4] (by kernel_rfl) (by kernel_rfl) (fun _ _ h => h) fun k hk => ?_; simp only [List.map_cons, List.map_nil, List.getD_cons_zero, List.getD_cons_succ, btseq_cons, btseq_free, btseq_nil]; simp -implicitDefEqProofs only [evr, id, seval, res_one, par_one, idn_one, par_0, par_1, resRow, res_ro, tl_get, tl_set, rExtract_tup, evn])
        refine wcall_plain (identC F ys.toArray[i]!) rfl (by rintro _ rfl; intro R w q hq; rcases (show q = 0 ∨ q = 1 ∨ q = 2 by omega) with rfl | rfl | rfl <;> trivial) ?_
        rintro _ rfl
        rw [← hr]
        simp only [idAg, evr, id, seval, res_one, par_one, idn_one, par_0, par_1, List.append_nil, Int.toNat_zero, Nat.sub_self, Int.reduceToNat, resRow, res_ro, tl_get, tl_set, rExtract_tup]
        refine ⟨by rw [List.take_length], fun bs => ⟨by rw [List.take_left], ?_⟩⟩
        refine entryMq (id := 1) (l := p.keys) hT rfl rfl rfl rfl (.os 0 none 0 0) (by kernel_rfl) (fun R w => trivial) (show 41 < 71 by decide) (fun j2 hj2 hk2 => ?_) (fun hno2 => ?_)
        · exact absurd ⟨j2, hj2, parKeys_inj hk2⟩ hno
        · simp -implicitDefEqProofs only [evr, id, seval, res_one, par_one, idn_one, par_0, par_1, resRow, res_ro, tl_get, tl_set, rExtract_tup, evn]
          refine ⟨by unfold maxLen; omega, fun a3 c3 => ?_⟩
          refine storeMq (id := 1) rfl rfl rfl (Nat.lt_succ_self _) rfl trivial ?_
          simp -implicitDefEqProofs only [evr, id, seval, res_one, par_one, idn_one, par_0, par_1, resRow, res_ro, tl_get, tl_set, rExtract_tup, evn]
          refine hk _ ?_
          clear hk k
          simp only [thenK, blockK]
          refine Sat.cutOwn (.row a3 56 1 c3 3 (rdCat 0 (idnRd #[]) (rdL [SV.i .i64 r.vantage, SV.i .i64 r.run, SV.i .i64 r.number] 3)) :: .mq mb false [.u32, .u32] (X.length + 1) (fun q => if q = X.length then p.keys else gKey X q) (fun q => if q = X.length then .os 0 a3 1 c3 else if q = X.length then .os 0 none 0 0 else gVal X q) :: T) ?_
          obtain ⟨X2, hX2d⟩ : ∃ X2, X2 = X ++ [⟨p, [r.idn], a3, c3⟩] := ⟨_, rfl⟩
          have hX2l : X2.length = X.length + 1 := by rw [hX2d, List.length_append]; rfl
          have hX2g : ∀ q, q < X.length → X2.getD q default = X.getD q default := fun q hq => by
            rw [hX2d, List.getD_eq_getElem?_getD, List.getElem?_append_left hq, List.getD_eq_getElem?_getD]
          have hX2n : X2.getD X.length default = ⟨p, [r.idn], a3, c3⟩ := by
            rw [hX2d, List.getD_eq_getElem?_getD, List.getElem?_concat_length]; rfl
          have hX2 : X2.map Grp.pair = grpOf (ys.take (i + 1)) := by
            rw [hstep, grpAdd_miss (fun x hx => by
              obtain ⟨y, hy, rfl⟩ := List.mem_map.1 hx
              obtain ⟨q, hq, rfl⟩ := List.getElem_of_mem hy
              exact fun e => hno ⟨q, hq, by rw [List.getD_eq_getElem?_getD, List.getElem?_eq_getElem hq]; exact e⟩), hX2d, List.map_append]
            rfl
          refine Sat.leOwn (own' := Grp.row ⟨p, [r.idn], a3, c3⟩ :: .mq mb false [.u32, .u32] X2.length (gKey X2) (gVal X2) :: T) ⟨⟨rfl, rfl, rfl, rfl, rfl, idn_app (ys := []) rfl⟩, ⟨rfl, rfl, rfl, hX2l.symm, fun q hq => ?_⟩, ownLe_refl _⟩ ?_
          · unfold gKey gVal
            by_cases e : q = X.length
            · subst e
              rw [hX2n]
              simp [Grp.val]
            · rw [hX2g q (by omega)]
              simp only [e, if_false]
              exact ⟨trivial, trivial⟩
          refine Sat.pushNew ?_
          have hT2 : T ++ [Grp.row ⟨p, [r.idn], a3, c3⟩] = X2.map Grp.row := by rw [hTd, hX2d, List.map_append]; rfl
          rw [hT2]
          refine Sat.region_k fun k hk => ?_
          simp -implicitDefEqProofs only [evr, id, seval, res_one, par_one, idn_one, par_0, par_1, resRow, res_ro, tl_get, tl_set, rExtract_tup, e1, evn]
          refine hk _ ?_
          simp only [thenK, blockK]
          refine ⟨(i + 1, X2), ⟨by simp only; omega, hX2⟩, by simp only; omega, ?_⟩
          simp -implicitDefEqProofs only [evr, id, seval, res_one, par_one, idn_one, par_0, par_1, resRow, res_ro, tl_get, tl_set, rExtract_tup, evl, evn]
          exact ownLe_refl _
  refine Sat.exit ?_
  simp only [thenK, blockK, reduceIte]
  have hif : i = ys.length := by simp only [decide_eq_false_iff_not] at h3; omega
  subst hif
  rw [List.take_length] at hX hG
  obtain ⟨ps, hps⟩ : ∃ ps, ps = X.map Grp.p := ⟨_, rfl⟩
  have hpl : ps.length = X.length := by rw [hps, List.length_map]
  have hpg : ∀ q, q < X.length → ps.getD q default = (X.getD q default).p := fun q hq => by
    rw [hps]; simp [List.getD, hq]
  refine Sat.leOwn (own' := .gone :: .mq mb false [.u32, .u32] ps.length (fun i => (ps.getD i default).keys) (gVal X) :: X.map Grp.row) ⟨trivial, ⟨rfl, rfl, rfl, hpl.symm, fun q hq => ⟨by show _ = (ps.getD q default).keys; unfold gKey; rw [hpg q hq], rfl⟩⟩, ownLe_refl _⟩ ?_
  refine Sat.settleMap 5 rfl rfl ?_
  simp only [List.set_cons_succ, List.set_cons_zero]
  obtain ⟨T, hTd⟩ : ∃ T, T = X.map Grp.row := ⟨_, rfl⟩
  rw [← hTd]
  have hTl : T.length = X.length := by rw [hTd, List.length_map]
  (repeat refine Sat.seq ?_)
  (refine Sat.region_k fun k hk => ?_; simp -implicitDefEqProofs only [evr, id, seval, res_one, par_one, idn_one, par_0, par_1, resRow, res_ro, tl_get, tl_set, rExtract_tup, evn])
  refine wcall_slice (keysC F mb ps (gVal X)) rfl (by simp only [pmS, evr, id, seval, res_one, par_one, idn_one, par_0, par_1, List.append_nil, Int.toNat_zero, Nat.sub_self, Int.reduceToNat, resRow, res_ro, tl_get, tl_set, rExtract_tup]; try rfl) ?_
  rintro _ ⟨bx, rdk, rfl, hrdk⟩
  simp -implicitDefEqProofs only [evr, id, seval, res_one, par_one, idn_one, par_0, par_1, resRow, res_ro, tl_get, tl_set, rExtract_tup, evn]
  refine wcall_new (sortedKC F mb bx ps (gVal X) rdk _ hrdk (by omega)) rfl (by simp -implicitDefEqProofs only [evr, id, seval, res_one, par_one, idn_one, par_0, par_1, resRow, res_ro, tl_get, tl_set, rExtract_tup, evn]; try rfl) ?_
  rintro pa ty len cap4 sz rd4 ⟨pa2, pc, L, hL, e⟩
  simp only [parRow, Eng.Own.row.injEq] at e
  obtain ⟨rfl, rfl, rfl, rfl, rfl, rfl⟩ := e
  simp -implicitDefEqProofs only [evr, id, seval, res_one, par_one, idn_one, par_0, par_1, resRow, res_ro, tl_get, tl_set, rExtract_tup, evn]
  (refine hk _ ?_; clear hk k; try show Sat _ _ _ _ _)
  refine Sat.settleLastRow (.gone :: .gone :: T) 10 rfl ?_
  (repeat refine Sat.seq ?_)
  (refine Sat.region_k fun k hk => ?_; simp -implicitDefEqProofs only [evr, id, seval, res_one, par_one, idn_one, par_0, par_1, resRow, res_ro, tl_get, tl_set, rExtract_tup, evn]; refine hk _ ?_; clear hk k; try show Sat _ _ _ _ _)
  refine Sat.nilAt 1 37 4 (evRd []) rfl ?_
  refine Sat.redo 11 (.os 1 none 0 0) rfl rfl (fun _ _ => trivial) ?_
  simp only [List.set_cons_succ, List.set_cons_zero]
  have hLps := hL.1
  have hpn : ps.Nodup := by
    have := hG.nodup
    rw [List.map_map] at this
    rw [hps]
    exact this
  have hLn : L.Nodup := hLps.nodup_iff.2 hpn
  have hLl : L.length = ps.length := hLps.length_eq
  (repeat refine Sat.seq ?_)
  (refine Sat.region_k fun k hk => ?_; simp -implicitDefEqProofs only [evr, id, seval, res_one, par_one, idn_one, par_0, par_1, resRow, res_ro, tl_get, tl_set, rExtract_tup, evn]; refine hk _ ?_; clear hk k; try show Sat _ _ _ _ _)
  (repeat refine Sat.seq ?_)
  refine Sat.block ?_
  refine Sat.loop (ι := Nat × List Evd × Option Addr × Nat) (fun z => ⟨71, [(50, .i .i64 z.1), (11, .os 1 z.2.2.1 z.2.1.length z.2.2.2), (49, .i .i64 L.length), (48, .sl pa L.length cap4 2 (parRd L.toArray)), (5, .rm mb false [.u32, .u32] ps.length (fun i => (ps.getD i default).keys) (gVal X))], .gone :: .row z.2.2.1 37 z.2.1.length z.2.2.2 4 (evRd z.2.1) :: leftT X (L.take z.1)⟩)
    (fun z => z.1 ≤ L.length ∧ z.2.1.length = z.1 ∧ ∀ q, q < z.1 → evOk (X.map Grp.pair) (L.getD q default) (z.2.1.getD q default)) (fun z => L.length - z.1) (0, [], none, 0) ⟨Nat.zero_le _, rfl, fun q hq => absurd hq (Nat.not_lt_zero _)⟩ (by
      simp only [List.length_nil, List.take_zero]
      simp -implicitDefEqProofs only [evr, id, seval, res_one, par_one, idn_one, par_0, par_1, resRow, res_ro, tl_get, tl_set, rExtract_tup, evl, evn]
      try refine ⟨rfl, ?_⟩
      rw [hTd]
      have e0 : leftT X [] = X.map Grp.row := List.map_congr_left fun g _ => if_neg (by simp)
      rw [e0]
      exact ownLe_refl _) ?_
  rintro ⟨v, es, ea, ec⟩ ⟨hv, hel, hes⟩
  simp only at hv hel hes ⊢
  (repeat refine Sat.seq ?_)
  (refine Sat.region_k fun k hk => ?_; simp -implicitDefEqProofs only [evr, id, seval, res_one, par_one, idn_one, par_0, par_1, resRow, res_ro, tl_get, tl_set, rExtract_tup, evn]; refine hk _ ?_; clear hk k; try show Sat _ _ _ _ _)
  (repeat refine Sat.seq ?_)
  refine Sat.cond_b rfl (fun h4 => ?_) (fun h4 => ?_)
  · have hlt : v < L.length := by simp only [decide_eq_true_eq] at h4; omega
    have e1 : IntKind.i64.wrap ((v : Int) + 1) = ((v + 1 : Nat) : Int) := by rw [w64 (by omega)]; omega
    have hLv : L.toArray[v]! = L[v] := by simp [getElem!_def, hlt]
    refine Sat.skip ?_
    simp only [thenK]
    (repeat refine Sat.seq ?_)
    refine Sat.block ?_
    (repeat refine Sat.seq ?_)
    obtain ⟨T, hTd⟩ : ∃ T, T = leftT X (L.take v) := ⟨_, rfl⟩
    rw [← hTd]
    have hTl : T.length = X.length := by rw [hTd, leftT, List.length_map]
    (refine Sat.region_k fun k hk => ?_; simp -implicitDefEqProofs only [evr, id, seval, res_one, par_one, idn_one, par_0, par_1, resRow, res_ro, tl_get, tl_set, rExtract_tup, evn])
    refine ⟨by omega, fun b13 => ?_⟩
    (refine hk _ ?_; clear hk k; try show Sat _ _ _ _ _)
    refine Sat.settleLast (.gone :: .row ea 37 es.length ec 4 (evRd es) :: T) 13 rfl ?_
    simp only [List.length_cons]
    (repeat refine Sat.seq ?_)
    (refine Sat.region_k fun k hk => ?_; simp -implicitDefEqProofs only [evr, id, seval, res_one, par_one, idn_one, par_0, par_1, resRow, res_ro, tl_get, tl_set, rExtract_tup, evn])
    obtain ⟨p, hp⟩ : ∃ p, p = L.toArray[v]! := ⟨_, rfl⟩
    have hpL : p ∈ L := by rw [hp, hLv]; exact List.getElem_mem _
    have hpX : p ∈ X.map Grp.p := by rw [← hps]; exact hLps.mem_iff.1 hpL
    obtain ⟨g, hgX, hgp⟩ := List.mem_map.1 hpX
    obtain ⟨j, hj, hXj⟩ := List.getElem_of_mem hgX
    refine lookMq (l := p.keys) hT (mqIn_rm (m := .tmp 54) rfl) rfl (by rw [hp]; rfl) (.os 0 none 0 0) (by kernel_rfl) (fun R w => trivial) (show 56 < 71 by decide) (fun j2 hj2 hk2 => ?_) (fun hno => (hno j (by omega) (by
      show (ps.getD j default).keys = p.keys
      rw [hpg j hj, ← hgp, List.getD_eq_getElem?_getD, List.getElem?_eq_getElem hj, hXj]
      rfl)).elim)
    have hXg : X.getD j2 default = g := by
      have h8 : (ps.getD j2 default) = p := parKeys_inj hk2
      rw [hpg j2 (by omega)] at h8
      have h9 : (X.getD j default).p = p := by rw [List.getD_eq_getElem?_getD, List.getElem?_eq_getElem hj, hXj]; exact hgp
      obtain rfl := gKey_inj hG.nodup (i := j2) (j := j) (by omega) hj (by rw [h8, h9])
      rw [List.getD_eq_getElem?_getD, List.getElem?_eq_getElem hj, hXj]
      rfl
    have hj2X : j2 < X.length := by omega
    have hX2 : X[j2]? = some g := by rw [← hXg, List.getD_eq_getElem?_getD, List.getElem?_eq_getElem hj2X]; rfl
    have hpV : ¬ g.p ∈ L.take v := by
      rw [hgp, hp, hLv]
      intro hm
      obtain ⟨q, hq, he⟩ := List.getElem_of_mem hm
      rw [List.length_take] at hq
      rw [List.getElem_take] at he
      have hqL : q < L.length := by omega
      have := (List.getElem?_inj (j := v) hqL hLn).1 (by rw [List.getElem?_eq_getElem hqL, he, List.getElem?_eq_getElem hlt])
      omega
    have hTj : T[j2]? = some g.row := by rw [hTd, leftT, List.getElem?_map, hX2, Option.map_some, if_neg hpV]
    have hgv : gVal X j2 = .os 0 g.a g.ids.length g.cap := by unfold gVal Grp.val; rw [hXg]
    rw [hgv]
    simp -implicitDefEqProofs only [evr, id, seval, res_one, par_one, idn_one, par_0, par_1, resRow, res_ro, tl_get, tl_set, rExtract_tup, evn]
    (refine hk _ ?_; clear hk k; try show Sat _ _ _ _ _)
    refine Sat.pull j2 hTj ?_
    obtain ⟨T1, hT1⟩ : ∃ T1, T1 = T.set j2 Eng.Own.gone := ⟨_, rfl⟩
    rw [← hT1]
    simp only [Grp.row]
    have hgl : g.ids.length ≤ 512 := by
      have := hG.lens g.pair (List.mem_map.2 ⟨g, hgX, rfl⟩)
      have h9 : g.pair.2 = g.ids := rfl
      rw [h9] at this
      omega
    (repeat refine Sat.seq ?_)
    (refine Sat.region_k fun k hk => ?_; simp -implicitDefEqProofs only [evr, id, seval, res_one, par_one, idn_one, par_0, par_1, resRow, res_ro, tl_get, tl_set, rExtract_tup, evn])
    refine wcall_mut 0 (idnSortC F idnLt_swo idnCmp1 g.a g.cap g.ids.length (by omega) g.ids.toArray (by simp)) rfl rfl ?_
    rintro r o1 ⟨rfl, d', hd', ⟨hperm, hsort⟩, rfl⟩
    simp -implicitDefEqProofs only [evr, id, seval, res_one, par_one, idn_one, par_0, par_1, resRow, res_ro, tl_get, tl_set, rExtract_tup, evn]
    (refine hk _ ?_; clear hk k; try show Sat _ _ _ _ _)
    (repeat refine Sat.seq ?_)
    have hcl : (compactN d'.toList).length ≤ 512 := by
      have := compactN_le d'.toList
      simp only [Array.length_toList] at this
      omega
    have hpv : L.toArray[v]! = p := hp.symm
    refine Sat.atF (ι := Option Addr × Nat) (fun z => ⟨71, [(50, .i .i64 v), (11, .os 1 z.1 (es.length + 1) z.2), (49, .i .i64 L.length), (48, .sl pa L.length cap4 2 (parRd L.toArray)), (5, .rm mb false [.u32, .u32] ps.length (fun i => (ps.getD i default).keys) (gVal X))], .row g.a 56 (compactN d'.toList).length g.cap 3 (idnRd (compactN d'.toList).toArray) :: .row z.1 37 (es.length + 1) z.2 4 (rdCat es.length (evRd es) (rdL [.i .i64 1, .i .u32 p.a, .i .u32 p.b, .os 0 g.a (compactN d'.toList).length g.cap] 4)) :: T1⟩) (fun _ => True) ?_ ?_
    · (refine Sat.region_tree (.keep [0, 1, 3, 5] [] (.alt 2 (.alt 4 (.one 6 (.one 7 (.one 8 (.one 9 (.one 10 .done))))) (.alt 6 (.one 4 (.one 7 (.one 8 (.one 9 (.one 10 .done))))) .none)) (.alt 4 (.alt 2 (.one 6 (.one 7 (.one 8 (.one 9 (.one 10 .done))))) (.alt 6 (.one 2 (.one 7 (.one 8 (.one 9 (.one 10 .done))))) .none)) (.alt 6 (.alt 2 (.one 4 (.one 7 (.one 8 (.one 9 (.one 10 .done))))) (.alt 4 (.one 2 (.one 7 (.one 8 (.one 9 (.one 10 .done))))) .none)) .none)))) (by kernel_rfl) (by kernel_rfl) (fun _ _ h => h) fun k hk => ?_; simp only [WOT, List.map_cons, List.map_nil, List.getD_cons_zero, List.getD_cons_succ]; simp -implicitDefEqProofs only [evr, id, seval, res_one, par_one, idn_one, par_0, par_1, resRow, res_ro, tl_get, tl_set, rExtract_tup, WOT, evn])
      repeat' (first
        | (with_reducible refine And.intro ?_ ?_)
        | omega
        | (refine wcall_mut 0 (compactNC F g.a g.cap g.ids.length (by omega) d' hd') rfl rfl ?_
           rintro r o1 ⟨rfl, rfl⟩
           simp only [idnRow, hpv, evr, id, seval, res_one, par_one, idn_one, par_0, par_1, List.append_nil, Int.toNat_zero, Nat.sub_self, Int.reduceToNat, resRow, res_ro, tl_get, tl_set, rExtract_tup])
        | (unfold maxLen; omega)
        | (refine fun (a3 : Option Addr) (c3 : Nat) => hk _ ?_
           simp only [thenK]
           refine ⟨(a3, c3), trivial, ?_⟩
           simp -implicitDefEqProofs only [evr, id, seval, res_one, par_one, idn_one, par_0, par_1, resRow, res_ro, tl_get, tl_set, rExtract_tup, evl, evn]
           exact ownLe_app _ _)
        | (with_reducible intro _))
    rintro ⟨a3, c3⟩ -
    simp only [thenK, blockK, reduceIte]
    obtain ⟨e, he⟩ : ∃ e : Evd, e = ⟨1, p.a, p.b, compactN d'.toList, g.a, g.cap⟩ := ⟨_, rfl⟩
    have hev1 : ∀ q, q < es.length → (es ++ [e]).getD q default = es.getD q default := fun q hq => by
      rw [List.getD_eq_getElem?_getD, List.getElem?_append_left hq, List.getD_eq_getElem?_getD]
    have hev2 : (es ++ [e]).getD es.length default = e := by rw [List.getD_eq_getElem?_getD, List.getElem?_concat_length]; rfl
    refine Sat.settleCell 1 0 (evRd (es ++ [e])) rfl rfl (by decide) (fun i j hi hj => ?_) ?_
    · by_cases hlt2 : i < es.length
      · left
        have e9 : rdCat es.length (evRd es) (rdL [.i .i64 1, .i .u32 p.a, .i .u32 p.b, .os 0 g.a (compactN d'.toList).length g.cap] 4) i j = evRd es i j := by unfold rdCat; rw [if_pos hlt2]
        rw [e9]
        unfold evRd
        rw [hev1 i hlt2]
        exact sim_refl _
      · obtain rfl : i = es.length := by omega
        have e9 : rdCat es.length (evRd es) (rdL [.i .i64 1, .i .u32 p.a, .i .u32 p.b, .os 0 g.a (compactN d'.toList).length g.cap] 4) es.length j = [.i .i64 1, .i .u32 p.a, .i .u32 p.b, .os 0 g.a (compactN d'.toList).length g.cap].getD j default := by
          unfold rdCat
          rw [if_neg (Nat.lt_irrefl _), Nat.sub_self]
          unfold rdL
          rw [Nat.zero_mul, Nat.zero_add]
        rw [e9]
        unfold evRd
        rw [hev2, he]
        rcases (show j = 0 ∨ j = 1 ∨ j = 2 ∨ j = 3 by omega) with rfl | rfl | rfl | rfl
        · exact .inl (sim_refl _)
        · exact .inl (sim_refl _)
        · exact .inl (sim_refl _)
        · exact .inr ⟨rfl, rfl⟩
    simp only [List.set_cons_succ, List.set_cons_zero]
    have hLvp : L[v] = p := by rw [← hLv, hpv]
    have htk : L.take (v + 1) = L.take v ++ [p] := by rw [List.take_succ_eq_append_getElem hlt, hLvp]
    have hT2 : T1 = leftT X (L.take (v + 1)) := by
      rw [hT1, hTd, htk]
      apply List.ext_getElem?
      intro q
      unfold leftT
      rw [List.getElem?_set, List.getElem?_map, List.getElem?_map, List.length_map]
      by_cases hq : j2 = q
      · subst hq
        rw [if_pos rfl, if_pos hj2X, hX2, Option.map_some, if_pos (by rw [hgp]; simp)]
      · rw [if_neg hq]
        cases hXq : X[q]? with
        | none => rfl
        | some x =>
          have hqX := (List.getElem?_eq_some_iff.1 hXq).1
          have hne : x.p ≠ p := fun e9 => hq (gKey_inj hG.nodup hj2X hqX (by
            rw [hXg, List.getD_eq_getElem?_getD, hXq]
            show g.p = x.p
            rw [hgp, e9]))
          simp only [Option.map_some, List.mem_append, List.mem_singleton, hne, or_false]
    refine Sat.leOwn (own' := .gone :: .row a3 37 (es ++ [e]).length c3 4 (evRd (es ++ [e])) :: leftT X (L.take (v + 1))) ⟨trivial, ⟨rfl, rfl, by simp, rfl, rfl, fun _ _ _ _ => rfl⟩, by rw [← hT2]; exact ownLe_refl _⟩ ?_
    refine Sat.region_k fun k hk => ?_
    simp -implicitDefEqProofs only [evr, id, seval, res_one, par_one, idn_one, par_0, par_1, resRow, res_ro, tl_get, tl_set, rExtract_tup, e1, evn]
    refine hk _ ?_
    simp only [thenK, blockK]
    refine ⟨(v + 1, es ++ [e], a3, c3), ⟨by simp only; omega, by simp only [List.length_append, List.length_singleton]; omega, fun q hq => ?_⟩, by simp only; omega, ?_⟩
    · by_cases hq2 : q < v
      · simp only
        rw [hev1 q (by omega)]
        exact hes q hq2
      · obtain rfl : q = v := by simp only at hq; omega
        simp only
        have h8 : (es ++ [e]).getD q default = e := by rw [← hel]; exact hev2
        have h9 : L.getD q default = p := by rw [List.getD_eq_getElem?_getD, List.getElem?_eq_getElem hlt, hLvp]; rfl
        rw [h8, h9, he]
        obtain ⟨s1, s2⟩ := idn_sorted hd' hperm hsort
        refine ⟨rfl, rfl, rfl, compactN_asc _ s2, fun d => (compactN_mem _ d).trans ((s1.mem_iff).trans ?_), hcl⟩
        have hgG : (p, g.ids) ∈ X.map Grp.pair := List.mem_map.2 ⟨g, hgX, by unfold Grp.pair; rw [hgp]⟩
        exact ⟨fun hd9 => ⟨_, hgG, hd9⟩, fun ⟨l, hl9, hd9⟩ => by rw [nodup_fst hG.nodup hgG hl9]; exact hd9⟩
    · have e7 : (es ++ [e]).length = es.length + 1 := by simp
      simp only [e7]
      simp -implicitDefEqProofs only [evr, id, seval, res_one, par_one, idn_one, par_0, par_1, resRow, res_ro, tl_get, tl_set, rExtract_tup, evl, evn]
      exact ownLe_refl _
  refine Sat.exit ?_
  simp only [thenK, blockK, reduceIte]
  (repeat refine Sat.seq ?_)
  (refine Sat.region_k fun k hk => ?_; simp -implicitDefEqProofs only [evr, id, seval, res_one, par_one, idn_one, par_0, par_1, resRow, res_ro, tl_get, tl_set, rExtract_tup, evn]; refine hk _ ?_; clear hk k; try show Sat _ _ _ _ _)
  refine Sat.ret ?_
  simp only [Try.results11, evr, id, seval, res_one, par_one, idn_one, par_0, par_1, List.append_nil, Int.toNat_zero, Nat.sub_self, Int.reduceToNat, resRow, res_ro, tl_get, tl_set, rExtract_tup]
  obtain rfl : v = L.length := by simp only [decide_eq_false_iff_not] at h4; omega
  refine .inr ⟨h, _, _, es, pairsOf_mk hord hyl hG (by rw [← hps]; exact hL) hel hes, rfl⟩
end Go.Proofs.Ytepbdjpcoleegaa


/- Evidence, by the evaluator: common.Compare, ValidEvidence, paths.Find, common.Holds. -/
namespace Go.Proofs.Ytepbdjpcoleegaa
open Go.Sort Eng
theorem idn_0 (d : Array Idn) (i : Nat) : idnRd d i 0 = .i .i64 d[i]!.van := rfl
theorem idn_1 (d : Array Idn) (i : Nat) : idnRd d i 1 = .i .i64 d[i]!.run := rfl
theorem idn_2 (d : Array Idn) (i : Nat) : idnRd d i 2 = .i .i64 d[i]!.num := rfl
def cmpIds : List Idn → List Idn → Int
  | [], [] => 0
  | [], _ :: _ => -1
  | _ :: _, [] => 1
  | x :: xs, y :: ys => if idnCmpI x y ≠ 0 then idnCmpI x y else cmpIds xs ys
theorem cmpIds_step {xs ys : List Idn} {i : Nat} (h1 : i < xs.length) (h2 : i < ys.length) : cmpIds (xs.drop i) (ys.drop i) = if idnCmpI xs[i] ys[i] ≠ 0 then idnCmpI xs[i] ys[i] else cmpIds (xs.drop (i + 1)) (ys.drop (i + 1)) := by
  rw [List.drop_eq_getElem_cons h1, List.drop_eq_getElem_cons h2, cmpIds]
theorem idnGet {xs : List Idn} {i : Nat} (h : i < xs.length) : xs.toArray[i]! = xs[i] := by simp [getElem!_def, h]
set_option maxRecDepth 100000 in
theorem cmpFuncC (F : Frm) (a b : Option Addr) (cap cap2 : Nat) (xs ys : List Idn) (cc : Nat → SV) (hx : xs.length ≤ 1000000000) (hy : ys.length ≤ 1000000000) :
    Contract F Try.prog 43 [.sl a xs.length cap 3 (idnRd xs.toArray), .sl b ys.length cap2 3 (idnRd ys.toArray), .fn 20 0 cc] (fun r => r = .i .i64 (cmpIds xs ys)) := by
  refine contract_of Try.func43 rfl (by kernel_rfl) ?_
  simp only [Try.ntmps43, argEnv]
  (repeat refine Sat.seq ?_)
  (refine Sat.region_k fun k hk => ?_; simp -implicitDefEqProofs only [evr, id, seval, res_one, par_one, idn_one, idn_0, idn_1, idn_2, resRow, res_ro, rExtract_tup, evn]; refine hk _ ?_; clear hk k; try show Sat _ _ _ _ _)
  (repeat refine Sat.seq ?_)
  (refine Sat.region_k fun k hk => ?_; simp -implicitDefEqProofs only [evr, id, seval, res_one, par_one, idn_one, idn_0, idn_1, idn_2, resRow, res_ro, rExtract_tup, evn]; refine hk _ ?_; clear hk k; try show Sat _ _ _ _ _)
  (repeat refine Sat.seq ?_)
  refine Sat.block ?_
  refine Sat.loop (ι := Nat) (fun i => ⟨39, [(13, .i .i64 i), (12, .i .i64 xs.length), (11, .sl a xs.length cap 3 (idnRd xs.toArray)), (0, .sl a xs.length cap 3 (idnRd xs.toArray)), (1, .sl b ys.length cap2 3 (idnRd ys.toArray)), (2, .fn 20 0 cc)], []⟩)
    (fun i => i ≤ xs.length ∧ i ≤ ys.length ∧ cmpIds (xs.drop i) (ys.drop i) = cmpIds xs ys) (fun i => xs.length - i) 0 ⟨Nat.zero_le _, Nat.zero_le _, rfl⟩ (by simp -implicitDefEqProofs only [evr, id, seval, res_one, par_one, idn_one, idn_0, idn_1, idn_2, resRow, res_ro, rExtract_tup, evl, evn]; try rfl) ?_
  rintro i ⟨hi, hi2, hc⟩
  (repeat refine Sat.seq ?_)
  (refine Sat.region_k fun k hk => ?_; simp -implicitDefEqProofs only [evr, id, seval, res_one, par_one, idn_one, idn_0, idn_1, idn_2, resRow, res_ro, rExtract_tup, evn]; refine hk _ ?_; clear hk k; try show Sat _ _ _ _ _)
  (repeat refine Sat.seq ?_)
  refine Sat.cond_b rfl (fun h => ?_) (fun h => ?_)
  · have h1 : i < xs.length := by simp only [decide_eq_true_eq] at h; omega
    have e1 : IntKind.i64.wrap ((i : Int) + 1) = ((i + 1 : Nat) : Int) := by rw [w64 (by omega)]; omega
    refine Sat.skip ?_
    simp only [thenK]
    (repeat refine Sat.seq ?_)
    refine Sat.block ?_
    (repeat refine Sat.seq ?_)
    (refine Sat.region_k fun k hk => ?_; simp -implicitDefEqProofs only [evr, id, seval, res_one, par_one, idn_one, idn_0, idn_1, idn_2, resRow, res_ro, rExtract_tup, evn])
    refine ⟨by omega, fun b8 => ?_⟩
    (refine hk _ ?_; clear hk k; try show Sat _ _ _ _ _)
    (repeat refine Sat.seq ?_)
    (refine Sat.region_k fun k hk => ?_; simp -implicitDefEqProofs only [evr, id, seval, res_one, par_one, idn_one, idn_0, idn_1, idn_2, resRow, res_ro, rExtract_tup, evn]; refine hk _ ?_; clear hk k; try show Sat _ _ _ _ _)
    (repeat refine Sat.seq ?_)
    refine Sat.cond_b rfl (fun h2 => ?_) (fun h2 => ?_)
    · have hle : ys.length ≤ i := by simp only [decide_eq_true_eq] at h2; omega
      (repeat refine Sat.seq ?_)
      (refine Sat.region_k fun k hk => ?_; simp -implicitDefEqProofs only [evr, id, seval, res_one, par_one, idn_one, idn_0, idn_1, idn_2, resRow, res_ro, rExtract_tup, evn]; refine hk _ ?_; clear hk k; try show Sat _ _ _ _ _)
      refine Sat.ret ?_
      simp only [blockK, Try.results43, evr, id, seval, res_one, par_one, idn_one, idn_0, idn_1, idn_2, List.append_nil, Int.toNat_zero, Nat.sub_self, Int.reduceToNat, resRow, res_ro, rExtract_tup]
      rw [← hc, List.drop_eq_getElem_cons h1, List.drop_eq_nil_of_le hle, cmpIds]
    have h3 : i < ys.length := by simp only [decide_eq_false_iff_not] at h2; omega
    have hst := cmpIds_step h1 h3
    rw [hc] at hst
    refine Sat.skip ?_
    simp only [thenK]
    (repeat refine Sat.seq ?_)
    (refine Sat.region_k fun k hk => ?_; simp -implicitDefEqProofs only [evr, id, seval, res_one, par_one, idn_one, idn_0, idn_1, idn_2, resRow, res_ro, rExtract_tup, evn])
    refine ⟨by omega, fun b9 => ?_⟩
    (refine hk _ ?_; clear hk k; try show Sat _ _ _ _ _)
    (repeat refine Sat.seq ?_)
    (refine Sat.region_k fun k hk => ?_; simp -implicitDefEqProofs only [evr, id, seval, res_one, par_one, idn_one, idn_0, idn_1, idn_2, resRow, res_ro, rExtract_tup, evn])
    refine wcall_plain (compareIdC F xs.toArray[i]! ys.toArray[i]!) rfl (by rintro _ rfl; exact ok_plain rfl) ?_
    rintro _ rfl
    rw [idnGet h1, idnGet h3]
    simp -implicitDefEqProofs only [evr, id, seval, res_one, par_one, idn_one, idn_0, idn_1, idn_2, resRow, res_ro, rExtract_tup, evn]
    (refine hk _ ?_; clear hk k; try show Sat _ _ _ _ _)
    (repeat refine Sat.seq ?_)
    (refine Sat.region_k fun k hk => ?_; simp -implicitDefEqProofs only [evr, id, seval, res_one, par_one, idn_one, idn_0, idn_1, idn_2, resRow, res_ro, rExtract_tup, evn]; refine hk _ ?_; clear hk k; try show Sat _ _ _ _ _)
    (repeat refine Sat.seq ?_)
    refine Sat.cond_b rfl (fun h4 => ?_) (fun h4 => ?_)
    · have hne : idnCmpI xs[i] ys[i] ≠ 0 := by simpa using h4
      rw [if_pos hne] at hst
      (repeat refine Sat.seq ?_)
      (refine Sat.region_k fun k hk => ?_; simp -implicitDefEqProofs only [evr, id, seval, res_one, par_one, idn_one, idn_0, idn_1, idn_2, resRow, res_ro, rExtract_tup, evn]; refine hk _ ?_; clear hk k; try show Sat _ _ _ _ _)
      refine Sat.ret ?_
      simp only [blockK, Try.results43, evr, id, seval, res_one, par_one, idn_one, idn_0, idn_1, idn_2, List.append_nil, Int.toNat_zero, Nat.sub_self, Int.reduceToNat, resRow, res_ro, rExtract_tup]
      rw [hst]
    have hz : idnCmpI xs[i] ys[i] = 0 := by simpa using h4
    rw [if_neg (by simpa using hz)] at hst
    refine Sat.skip ?_
    simp only [thenK, blockK]
    refine Sat.region_k fun k hk => ?_
    simp -implicitDefEqProofs only [evr, id, seval, res_one, par_one, idn_one, idn_0, idn_1, idn_2, resRow, res_ro, rExtract_tup, e1, evn]
    refine hk _ ?_
    simp only [thenK, blockK]
    refine ⟨i + 1, ⟨h1, h3, hst.symm⟩, by omega, ?_⟩
    simp -implicitDefEqProofs only [evr, id, seval, res_one, par_one, idn_one, idn_0, idn_1, idn_2, resRow, res_ro, rExtract_tup, evl, evn]
  have h1 : i = xs.length := by simp only [decide_eq_false_iff_not] at h; omega
  subst h1
  rw [List.drop_length] at hc
  refine Sat.exit ?_
  simp only [thenK, blockK, reduceIte]
  (repeat refine Sat.seq ?_)
  (refine Sat.region_k fun k hk => ?_; simp -implicitDefEqProofs only [evr, id, seval, res_one, par_one, idn_one, idn_0, idn_1, idn_2, resRow, res_ro, rExtract_tup, evn]; refine hk _ ?_; clear hk k; try show Sat _ _ _ _ _)
  (repeat refine Sat.seq ?_)
  refine Sat.cond_b rfl (fun h2 => ?_) (fun h2 => ?_)
  · have hlt : xs.length < ys.length := by simp only [decide_eq_true_eq] at h2; omega
    (repeat refine Sat.seq ?_)
    (refine Sat.region_k fun k hk => ?_; simp -implicitDefEqProofs only [evr, id, seval, res_one, par_one, idn_one, idn_0, idn_1, idn_2, resRow, res_ro, rExtract_tup, evn]; refine hk _ ?_; clear hk k; try show Sat _ _ _ _ _)
    refine Sat.ret ?_
    simp only [Try.results43, evr, id, seval, res_one, par_one, idn_one, idn_0, idn_1, idn_2, List.append_nil, Int.toNat_zero, Nat.sub_self, Int.reduceToNat, resRow, res_ro, rExtract_tup]
    rw [← hc, List.drop_eq_getElem_cons hlt, cmpIds]
  have hle : ys.length ≤ xs.length := by simp only [decide_eq_false_iff_not] at h2; omega
  refine Sat.skip ?_
  simp only [thenK]
  (repeat refine Sat.seq ?_)
  (refine Sat.region_k fun k hk => ?_; simp -implicitDefEqProofs only [evr, id, seval, res_one, par_one, idn_one, idn_0, idn_1, idn_2, resRow, res_ro, rExtract_tup, evn]; refine hk _ ?_; clear hk k; try show Sat _ _ _ _ _)
  refine Sat.ret ?_
  simp only [Try.results43, evr, id, seval, res_one, par_one, idn_one, idn_0, idn_1, idn_2, List.append_nil, Int.toNat_zero, Nat.sub_self, Int.reduceToNat, resRow, res_ro, rExtract_tup]
  rw [← hc, List.drop_eq_nil_of_le hle, cmpIds]
def evAg (e : Evd) : SV := .agg 4 fun j => (Evd.cs e).getD j default
def evCmp (e f : Evd) : Int := orL [ordI e.kind f.kind, ordI e.a f.a, ordI e.b f.b, cmpIds e.ids f.ids]
set_option maxHeartbeats 1000000 in
set_option maxRecDepth 100000 in
theorem compareEvC (F : Frm) (e f : Evd) (he : e.ids.length ≤ 1000000000) (hf : f.ids.length ≤ 1000000000) : Contract F Try.prog 18 [evAg e, evAg f] (fun r => r = .i .i64 (evCmp e f)) := by
  refine contract_of Try.func18 rfl (by kernel_rfl) ?_
  simp only [Try.ntmps18, argEnv, evAg, Evd.cs]
  (repeat refine Sat.seq ?_)
  (refine Sat.region_k fun k hk => ?_; simp -implicitDefEqProofs only [evr, id, seval, res_one, par_one, idn_one, idn_0, idn_1, idn_2, resRow, res_ro, rExtract_tup, evn])
  intro blk1 blk2
  (refine hk _ ?_; clear hk k; try show Sat _ _ _ _ _)
  (repeat refine Sat.seq ?_)
  (refine Sat.region_tree (OT.keep [0, 2, 5, 7, 10, 12, 15, 17, 1, 3, 6, 8, 11, 13, 16, 18] [4, 9, 14] (BT.one 4 (BT.one 9 (BT.one 14 (BT.one 19 (BT.one 20 (BT.one 21 (BT.one 22 BT.done)))))))) (by kernel_rfl) (by kernel_rfl) (fun _ _ h => h) fun k hk => ?_; simp only [WOT, List.map_cons, List.map_nil, List.getD_cons_zero, List.getD_cons_succ]; simp -implicitDefEqProofs only [evr, id, seval, res_one, par_one, idn_one, idn_0, idn_1, idn_2, resRow, res_ro, rExtract_tup, WOT, evn])
  refine wcall_plain (cmpC F e.kind f.kind) rfl (by rintro _ rfl; exact ok_plain rfl) ?_
  rintro r rfl
  simp -implicitDefEqProofs only [evr, id, seval, res_one, par_one, idn_one, idn_0, idn_1, idn_2, resRow, res_ro, rExtract_tup, evn]
  refine wcall_plain (cmpAC F e.a f.a) rfl (by rintro _ rfl; exact ok_plain rfl) ?_
  rintro r rfl
  simp -implicitDefEqProofs only [evr, id, seval, res_one, par_one, idn_one, idn_0, idn_1, idn_2, resRow, res_ro, rExtract_tup, evn]
  refine wcall_plain (cmpAC F e.b f.b) rfl (by rintro _ rfl; exact ok_plain rfl) ?_
  rintro r rfl
  simp -implicitDefEqProofs only [evr, id, seval, res_one, par_one, idn_one, idn_0, idn_1, idn_2, resRow, res_ro, rExtract_tup, evn]
  refine wcall_plain (cmpFuncC F e.ad f.ad e.cap f.cap e.ids f.ids _ he hf) (by simp -implicitDefEqProofs only [evr, id, seval, res_one, par_one, idn_one, idn_0, idn_1, idn_2, resRow, res_ro, rExtract_tup, evn]; try rfl) (by rintro _ rfl; exact ok_plain rfl) ?_
  rintro r rfl
  simp -implicitDefEqProofs only [evr, id, seval, res_one, par_one, idn_one, idn_0, idn_1, idn_2, resRow, res_ro, rExtract_tup, evn]
  intro blk3
  refine wcall_plain (orC F (some ⟨blk3, 0, none⟩) 4 [ordI e.kind f.kind, ordI e.a f.a, ordI e.b f.b, cmpIds e.ids f.ids] (by simp)) (by simp -implicitDefEqProofs only [evr, id, seval, res_one, par_one, idn_one, idn_0, idn_1, idn_2, resRow, res_ro, rExtract_tup, intsRd, evn]) (by rintro _ rfl; exact ok_plain rfl) ?_
  rintro r rfl
  simp -implicitDefEqProofs only [evr, id, seval, res_one, par_one, idn_one, idn_0, idn_1, idn_2, resRow, res_ro, rExtract_tup, evn]
  (refine hk _ ?_; clear hk k; try show Sat _ _ _ _ _)
  refine Sat.ret ?_
  simp only [Try.results18, evr, id, seval, res_one, par_one, idn_one, idn_0, idn_1, idn_2, List.append_nil, Int.toNat_zero, Nat.sub_self, Int.reduceToNat, resRow, res_ro, rExtract_tup]
  rfl
end Go.Proofs.Ytepbdjpcoleegaa


/- Evidence, by the evaluator: paths.Find, common.ValidEvidence, common.Holds. -/
namespace Go.Proofs.Ytepbdjpcoleegaa
open Go.Sort Eng
def findP (o : Option Res) (r : Res) (d : Idn) : Bool := decide (r.idn = d) && ((match o with | none => true | some b => decide (wCompare r b < 0)) && validR r)
def findStep (d : Idn) (o : Option Res) (r : Res) : Option Res := if findP o r d = true then some r else o
def findV (xs : List Res) (d : Idn) : Option Res := xs.foldl (findStep d) none
theorem findP_1 {o : Option Res} {r : Res} {d : Idn} (h : (⟨r.vantage, r.run, r.number⟩ : Idn) = ⟨d.van, d.run, d.num⟩) (ho : (!o.isSome) = true) : validR r = findP o r d := by
  have e : r.idn = d := h
  cases o with
  | none => unfold findP; rw [decide_eq_true e]; rfl
  | some b => cases ho
theorem findP_2 {o : Option Res} {r : Res} {d : Idn} (h : (⟨r.vantage, r.run, r.number⟩ : Idn) = ⟨d.van, d.run, d.num⟩) (ho : (!o.isSome) = false) (hc : wCompare r (o.getD default) < 0) : validR r = findP o r d := by
  have e : r.idn = d := h
  cases o with
  | none => cases ho
  | some b => unfold findP; rw [decide_eq_true e]; simp only [decide_eq_true (show wCompare r b < 0 from hc)]; rfl
theorem findP_3 {o : Option Res} {r : Res} {d : Idn} (ho : (!o.isSome) = false) (hc : ¬ wCompare r (o.getD default) < 0) : false = findP o r d := by
  cases o with
  | none => cases ho
  | some b => unfold findP; simp only [decide_eq_false (show ¬ wCompare r b < 0 from hc), Bool.false_and, Bool.and_false]
theorem findP_4 {o : Option Res} {r : Res} {d : Idn} (h : ¬ (⟨r.vantage, r.run, r.number⟩ : Idn) = ⟨d.van, d.run, d.num⟩) : false = findP o r d := by
  have e : ¬ r.idn = d := h
  unfold findP; rw [decide_eq_false e]; rfl
theorem findV_take (xs : List Res) (d : Idn) (i : Nat) (h : i < xs.length) : findV (xs.take (i + 1)) d = findStep d (findV (xs.take i) d) xs[i] := by
  unfold findV
  rw [List.take_succ_eq_append_getElem h, List.foldl_append]
  rfl
def findS : Option Res → SV
  | some r => tupL [resAg r, .b true]
  | none => tupL [resAg default, .b false]
theorem findS_ok (o : Option Res) (R : Nat → Prop) (w : World) : (findS o).ok R w := by
  cases o <;>
  · intro j hj
    have hj2 : j < 2 := hj
    rcases (show j = 0 ∨ j = 1 by omega) with rfl | rfl
    · exact ok_aggL (l := Res.cs _) rfl R w
    · trivial
theorem id_eqs (a b c a' b' c' : Int) : aggEq Try.prog 56 3 (fun j => [SV.i .i64 a, .i .i64 b, .i .i64 c].getD j default) 3 (fun j => [SV.i .i64 a', .i .i64 b', .i .i64 c'].getD j default) = some ([a == a', b == b', c == c'].all id) := by kernel_rfl
theorem id_eq (a b c a' b' c' : Int) : aggEq Try.prog 56 3 (fun j => [SV.i .i64 a, .i .i64 b, .i .i64 c].getD j default) 3 (fun j => [SV.i .i64 a', .i .i64 b', .i .i64 c'].getD j default) = some (decide ((⟨a, b, c⟩ : Idn) = ⟨a', b', c'⟩)) := by
  rw [id_eqs]
  congr 1
  apply Bool.eq_iff_iff.2
  simp
set_option maxHeartbeats 1000000 in
set_option maxRecDepth 100000 in
theorem findC (F : Frm) (ad : Option Addr) (cap : Nat) (xs : List Res) (d : Idn) (hl : xs.length ≤ 1000000000) :
    Contract F Try.prog 39 [.sl ad xs.length cap 17 (resRd xs.toArray), idnAg d] (fun r => r = findS (findV xs d)) := by
  refine contract_of Try.func39 rfl (by kernel_rfl) ?_
  simp only [Try.ntmps39, argEnv, idnAg, Idn.cs]
  (repeat refine Sat.seq ?_)
  (refine Sat.region_k fun k hk => ?_; simp -implicitDefEqProofs only [evr, id, seval, res_one, par_one, idn_one, idn_0, idn_1, idn_2, resRow, res_ro, rExtract_tup, id_eq, idAg, evn])
  intro b3 b4
  (refine hk _ ?_; clear hk k; try show Sat _ _ _ _ _)
  (repeat refine Sat.seq ?_)
  (refine Sat.region_k fun k hk => ?_; simp -implicitDefEqProofs only [evr, id, seval, res_one, par_one, idn_one, idn_0, idn_1, idn_2, resRow, res_ro, rExtract_tup, id_eq, idAg, evn])
  intro b6
  (refine hk _ ?_; clear hk k; try show Sat _ _ _ _ _)
  (repeat refine Sat.seq ?_)
  (refine Sat.region_k fun k hk => ?_; simp -implicitDefEqProofs only [evr, id, seval, res_one, par_one, idn_one, idn_0, idn_1, idn_2, resRow, res_ro, rExtract_tup, id_eq, idAg, evn]; refine hk _ ?_; clear hk k; try show Sat _ _ _ _ _)
  (repeat refine Sat.seq ?_)
  (refine Sat.region_k fun k hk => ?_; simp -implicitDefEqProofs only [evr, id, seval, res_one, par_one, idn_one, idn_0, idn_1, idn_2, resRow, res_ro, rExtract_tup, id_eq, idAg, evn]; refine hk _ ?_; clear hk k; try show Sat _ _ _ _ _)
  (repeat refine Sat.seq ?_)
  refine Sat.block ?_
  refine Sat.loop (ι := Nat × Option Res) (fun z => ⟨38, [(12, .i .i64 z.1), (11, .i .i64 xs.length), (10, .sl ad xs.length cap 17 (resRd xs.toArray)), (7, .b z.2.isSome), (6, .op 2 b6 0), (4, .op 1 b4 0), (3, .op 0 b3 0)],
      [.box b3 56 [.i .i64 d.van, .i .i64 d.run, .i .i64 d.num], .box b4 44 (Res.cs default), .box b6 44 (Res.cs (z.2.getD default))]⟩)
    (fun z => z.1 ≤ xs.length ∧ z.2 = findV (xs.take z.1) d) (fun z => xs.length - z.1) (0, none) ⟨Nat.zero_le _, rfl⟩ (by
      simp only [Option.getD_none, Option.isSome_none, Res.cs]
      simp -implicitDefEqProofs only [evr, id, seval, res_one, par_one, idn_one, idn_0, idn_1, idn_2, resRow, res_ro, rExtract_tup, id_eq, idAg, evl, evn]
      first | done | rfl | exact ⟨rfl, rfl⟩ | trace_state) ?_
  rintro ⟨i, o⟩ ⟨hi, ho⟩
  simp only [Res.cs] at hi ho ⊢
  (repeat refine Sat.seq ?_)
  (refine Sat.region_k fun k hk => ?_; simp -implicitDefEqProofs only [evr, id, seval, res_one, par_one, idn_one, idn_0, idn_1, idn_2, resRow, res_ro, rExtract_tup, id_eq, idAg, evn]; refine hk _ ?_; clear hk k; try show Sat _ _ _ _ _)
  (repeat refine Sat.seq ?_)
  refine Sat.cond_b rfl (fun h => ?_) (fun h => ?_)
  · have h1 : i < xs.length := by simp only [decide_eq_true_eq] at h; omega
    have e1 : IntKind.i64.wrap ((i : Int) + 1) = ((i + 1 : Nat) : Int) := by rw [w64 (by omega)]; omega
    have hst := findV_take xs d i h1
    rw [← ho] at hst
    refine Sat.skip ?_
    simp only [thenK]
    (repeat refine Sat.seq ?_)
    refine Sat.block ?_
    (repeat refine Sat.seq ?_)
    (refine Sat.region_k fun k hk => ?_; simp -implicitDefEqProofs only [evr, id, seval, res_one, par_one, idn_one, idn_0, idn_1, idn_2, resRow, res_ro, rExtract_tup, id_eq, idAg, evn])
    refine ⟨by omega, fun b9 => ?_⟩
    (refine hk _ ?_; clear hk k; try show Sat _ _ _ _ _)
    obtain ⟨r, hr⟩ : ∃ r, r = xs.toArray[i]! := ⟨_, rfl⟩
    have hrx : xs[i] = r := by rw [hr]; simp [getElem!_def, h1]
    rw [hrx] at hst
    (repeat refine Sat.seq ?_)
    refine Sat.joinK (ι := Bool) (fun q => ⟨38, [(33, .b q), (9, .op 3 b9 0), (12, .i .i64 i), (11, .i .i64 xs.length), (10, .sl ad xs.length cap 17 (resRd xs.toArray)), (7, .b o.isSome), (6, .op 2 b6 0), (4, .op 1 b4 0), (3, .op 0 b3 0)], [.box b3 56 [.i .i64 d.van, .i .i64 d.run, .i .i64 d.num], .box b4 44 (Res.cs default), .box b6 44 (Res.cs (o.getD default)), .box b9 44 [resRd xs.toArray i 0, resRd xs.toArray i 1, resRd xs.toArray i 2, resRd xs.toArray i 3, resRd xs.toArray i 4, resRd xs.toArray i 5, resRd xs.toArray i 6, resRd xs.toArray i 7, resRd xs.toArray i 8, resRd xs.toArray i 9, resRd xs.toArray i 10, resRd xs.toArray i 11, resRd xs.toArray i 12, resRd xs.toArray i 13, resRd xs.toArray i 14, resRd xs.toArray i 15, resRd xs.toArray i 16]]⟩) (fun q => q = findP o r d) (fun hrest => ?_) ?_
    · (refine Sat.region_tree (.keep [0, 2] [1] (.one 1 (.one 3 (.one 4 (.one 5 (.one 6 (.one 7 (.alt 8 (.one 9 (.one 10 (.one 11 (.one 12 (.one 13 (.one 14 (.one 15 (.one 16 (.one 17 .done))))))))) (.alt 9 (.one 8 (.one 10 (.one 11 (.one 12 (.one 13 (.one 14 (.one 15 (.one 16 (.one 17 .done))))))))) .none))))))))) (by kernel_rfl) (by kernel_rfl) (fun _ _ h => h) fun k hk => ?_; simp only [WOT, List.map_cons, List.map_nil, List.getD_cons_zero, List.getD_cons_succ]; simp -implicitDefEqProofs only [evr, id, seval, res_one, par_one, idn_one, idn_0, idn_1, idn_2, resRow, res_ro, rExtract_tup, id_eq, idAg, WOT, evn])
      refine wcall_plain (identC F xs.toArray[i]!) rfl (by rintro _ rfl; exact ok_aggL (l := [SV.i .i64 _, .i .i64 _, .i .i64 _]) rfl) ?_
      rintro _ rfl
      rw [← hr]
      simp -implicitDefEqProofs only [evr, id, seval, res_one, par_one, idn_one, idn_0, idn_1, idn_2, resRow, res_ro, rExtract_tup, id_eq, idAg, evn]
      repeat' (first
        | (with_reducible refine And.intro ?_ ?_)
        | (with_reducible intro _)
        | (refine wcall_plain (validC F xs.toArray[i]!) rfl (by rintro _ rfl; exact ok_plain rfl) ?_
           rintro _ rfl
           rw [← hr]
           simp -implicitDefEqProofs only [evr, id, seval, res_one, par_one, idn_one, idn_0, idn_1, idn_2, resRow, res_ro, rExtract_tup, id_eq, idAg, evn])
        | (refine wcall_plain (pcompareC F xs.toArray[i]! (o.getD default)) rfl (by rintro _ rfl; exact ok_plain rfl) ?_
           rintro _ rfl
           rw [← hr]
           simp -implicitDefEqProofs only [evr, id, seval, res_one, par_one, idn_one, idn_0, idn_1, idn_2, resRow, res_ro, rExtract_tup, id_eq, idAg, evn])
        | (refine hk _ ?_
           simp only [thenK]
           first
           | (refine (hrest _ (findP_1 (by assumption) (by assumption))).le ?_
              simp only [Res.cs]
              simp -implicitDefEqProofs only [evr, id, seval, res_one, par_one, idn_one, idn_0, idn_1, idn_2, resRow, res_ro, rExtract_tup, id_eq, idAg, evl, evn]
              done)
           | (refine (hrest _ (findP_2 (by assumption) (by assumption) (by assumption))).le ?_
              simp only [Res.cs]
              simp -implicitDefEqProofs only [evr, id, seval, res_one, par_one, idn_one, idn_0, idn_1, idn_2, resRow, res_ro, rExtract_tup, id_eq, idAg, evl, evn]
              done)
           | (refine (hrest _ (findP_3 (by assumption) (by assumption))).le ?_
              simp only [Res.cs]
              simp -implicitDefEqProofs only [evr, id, seval, res_one, par_one, idn_one, idn_0, idn_1, idn_2, resRow, res_ro, rExtract_tup, id_eq, idAg, evl, evn]
              done)
           | (refine (hrest _ (findP_4 (by assumption))).le ?_
              simp only [Res.cs]
              simp -implicitDefEqProofs only [evr, id, seval, res_one, par_one, idn_one, idn_0, idn_1, idn_2, resRow, res_ro, rExtract_tup, id_eq, idAg, evl, evn]
              done)))
    rintro q rfl
    simp only [Res.cs]
    refine Sat.atF (ι := Option Res) (fun z => ⟨38, [(12, .i .i64 i), (11, .i .i64 xs.length), (10, .sl ad xs.length cap 17 (resRd xs.toArray)), (7, .b z.isSome), (6, .op 2 b6 0), (4, .op 1 b4 0), (3, .op 0 b3 0)],
      [.box b3 56 [.i .i64 d.van, .i .i64 d.run, .i .i64 d.num], .box b4 44 (Res.cs default), .box b6 44 (Res.cs (z.getD default))]⟩) (fun z => z = findStep d o r) ?_ ?_
    · refine Sat.cond_b rfl (fun h2 => ?_) (fun h2 => ?_)
      · (refine Sat.region_k fun k hk => ?_; simp -implicitDefEqProofs only [evr, id, seval, res_one, par_one, idn_one, idn_0, idn_1, idn_2, resRow, res_ro, rExtract_tup, id_eq, idAg, evn]; refine hk _ ?_; clear hk k; try show Sat _ _ _ _ _)
        simp only [thenK]
        refine ⟨some r, by unfold findStep; rw [if_pos h2], ?_⟩
        simp only [Res.cs, Option.getD_some, Option.isSome_some]
        simp -implicitDefEqProofs only [evr, id, seval, res_one, par_one, idn_one, idn_0, idn_1, idn_2, resRow, res_ro, rExtract_tup, id_eq, idAg, evl, evn]
        rw [hr]
        rfl
      · refine Sat.skip ?_
        simp only [thenK]
        refine ⟨o, by unfold findStep; rw [if_neg (by rw [h2]; decide)], ?_⟩
        simp only [Res.cs]
        simp -implicitDefEqProofs only [evr, id, seval, res_one, par_one, idn_one, idn_0, idn_1, idn_2, resRow, res_ro, rExtract_tup, id_eq, idAg, evl, evn]
    rintro z hz
    simp only [thenK, blockK, Res.cs]
    refine Sat.region_k fun k hk => ?_
    simp -implicitDefEqProofs only [evr, id, seval, res_one, par_one, idn_one, idn_0, idn_1, idn_2, resRow, res_ro, rExtract_tup, id_eq, idAg, e1, evn]
    refine hk _ ?_
    simp only [thenK, blockK]
    refine ⟨(i + 1, z), ⟨h1, by rw [hz, ← hst]⟩, by simp only; omega, ?_⟩
    simp only [Res.cs]
    simp -implicitDefEqProofs only [evr, id, seval, res_one, par_one, idn_one, idn_0, idn_1, idn_2, resRow, res_ro, rExtract_tup, id_eq, idAg, evl, evn]
  · have h1 : i = xs.length := by simp only [decide_eq_false_iff_not] at h; omega
    subst h1
    rw [List.take_length] at ho
    refine Sat.exit ?_
    simp only [thenK, blockK, reduceIte]
    (repeat refine Sat.seq ?_)
    (refine Sat.region_k fun k hk => ?_; simp -implicitDefEqProofs only [evr, id, seval, res_one, par_one, idn_one, idn_0, idn_1, idn_2, resRow, res_ro, rExtract_tup, id_eq, idAg, evn]; refine hk _ ?_; clear hk k; try show Sat _ _ _ _ _)
    refine Sat.ret ?_
    simp only [Try.results39, evr, id, seval, res_one, par_one, idn_one, idn_0, idn_1, idn_2, List.append_nil, Int.toNat_zero, Nat.sub_self, Int.reduceToNat, resRow, res_ro, rExtract_tup, id_eq, idAg]
    rw [← ho]
    cases o <;> rfl
end Go.Proofs.Ytepbdjpcoleegaa


/- Evidence, by the evaluator: common.ValidEvidence, common.Holds. -/
namespace Go.Proofs.Ytepbdjpcoleegaa
open Go.Sort Eng
theorem par_eqs (a b a' b' : Int) : aggEq Try.prog 52 2 (fun j => [SV.i .u32 a, .i .u32 b].getD j default) 2 (fun j => [SV.i .u32 a', .i .u32 b'].getD j default) = some ([a == a', b == b'].all id) := by kernel_rfl
theorem par_eq (a b a' b' : Int) : aggEq Try.prog 52 2 (fun j => [SV.i .u32 a, .i .u32 b].getD j default) 2 (fun j => [SV.i .u32 a', .i .u32 b'].getD j default) = some (decide ((⟨a, b⟩ : Par) = ⟨a', b'⟩)) := by
  rw [par_eqs]
  congr 1
  apply Bool.eq_iff_iff.2
  simp
def evPre (e : Evd) : Bool := decide ((1 ≤ e.kind ∧ e.kind ≤ 3) ∧ e.a ≠ 0 ∧ e.a < e.b ∧ e.ids.length ≠ 0)
def idsAsc (l : List Idn) : Bool := decide (∀ i, i < l.length - 1 → idnLt (l.getD i default) (l.getD (i + 1) default) = true)
def validEv (e : Evd) : Bool := evPre e && idsAsc e.ids
set_option maxHeartbeats 1000000 in
set_option maxRecDepth 100000 in
theorem validEvC (F : Frm) (e : Evd) (he : e.ids.length ≤ 1000000000) : Contract F Try.prog 17 [evAg e] (fun r => r = .b (validEv e)) := by
  refine contract_of Try.func17 rfl (by kernel_rfl) ?_
  simp only [Try.ntmps17, argEnv, evAg, Evd.cs]
  (repeat refine Sat.seq ?_)
  (refine Sat.region_k fun k hk => ?_; simp -implicitDefEqProofs only [evr, id, seval, res_one, par_one, idn_one, idn_0, idn_1, idn_2, resRow, res_ro, rExtract_tup, par_eq, evn])
  intro b1
  (refine hk _ ?_; clear hk k; try show Sat _ _ _ _ _)
  (repeat refine Sat.seq ?_)
  refine Sat.atF (ι := Bool) (fun q => ⟨50, [(29, .b q), (1, .op 0 b1 0), (2, .ff)], [.box b1 37 (Evd.cs e)]⟩) (fun q => q = !evPre e) ?_ ?_
  · (refine Sat.region_k fun k hk => ?_; simp -implicitDefEqProofs only [evr, id, seval, res_one, par_one, idn_one, idn_0, idn_1, idn_2, resRow, res_ro, rExtract_tup, par_eq, evn])
    refine ⟨fun h1 => ?_, fun h1 => ⟨fun h2 => ?_, fun h2 => ⟨fun h3 => ?_, fun h3 => ⟨fun h4 => ?_, fun h4 => ?_⟩⟩⟩⟩
    · refine hk _ ?_
      simp only [thenK]
      refine ⟨true, by unfold evPre; symm; rw [Bool.not_eq_true', decide_eq_false_iff_not]; omega, ?_⟩
      simp only [Evd.cs]
      simp -implicitDefEqProofs only [evr, id, seval, res_one, par_one, idn_one, idn_0, idn_1, idn_2, resRow, res_ro, rExtract_tup, par_eq, evl, evn]
    · refine hk _ ?_
      simp only [thenK]
      refine ⟨true, by unfold evPre; symm; rw [Bool.not_eq_true', decide_eq_false_iff_not]; omega, ?_⟩
      simp only [Evd.cs]
      simp -implicitDefEqProofs only [evr, id, seval, res_one, par_one, idn_one, idn_0, idn_1, idn_2, resRow, res_ro, rExtract_tup, par_eq, evl, evn]
    · refine hk _ ?_
      simp only [thenK]
      refine ⟨true, by unfold evPre; symm; rw [Bool.not_eq_true', decide_eq_false_iff_not]; (rw [beq_iff_eq] at h3; exact fun hh => hh.2.1 h3), ?_⟩
      simp only [Evd.cs]
      simp -implicitDefEqProofs only [evr, id, seval, res_one, par_one, idn_one, idn_0, idn_1, idn_2, resRow, res_ro, rExtract_tup, par_eq, evl, evn]
    · refine hk _ ?_
      simp only [thenK]
      refine ⟨true, by unfold evPre; symm; rw [Bool.not_eq_true', decide_eq_false_iff_not]; omega, ?_⟩
      simp only [Evd.cs]
      simp -implicitDefEqProofs only [evr, id, seval, res_one, par_one, idn_one, idn_0, idn_1, idn_2, resRow, res_ro, rExtract_tup, par_eq, evl, evn]
    · refine hk _ ?_
      simp only [thenK]
      refine ⟨((e.ids.length : Int) == 0), ?_, ?_⟩
      rotate_left
      · simp only [Evd.cs]
        simp -implicitDefEqProofs only [evr, id, seval, res_one, par_one, idn_one, idn_0, idn_1, idn_2, resRow, res_ro, rExtract_tup, par_eq, evl, evn]
      · rw [beq_eq_false_iff_ne] at h3
        unfold evPre
        by_cases h5 : e.ids.length = 0
        · simp [h5]
        · have a1 : ((e.ids.length : Int) == 0) = false := by rw [beq_eq_false_iff_ne]; omega
          rw [a1, decide_eq_true ⟨⟨by omega, by omega⟩, h3, by omega, h5⟩]
          rfl
  rintro q rfl
  simp only [Evd.cs]
  (repeat refine Sat.seq ?_)
  refine Sat.cond_b rfl (fun h => ?_) (fun h => ?_)
  · have hp : evPre e = false := by simpa using h
    (repeat refine Sat.seq ?_)
    (refine Sat.region_k fun k hk => ?_; simp -implicitDefEqProofs only [evr, id, seval, res_one, par_one, idn_one, idn_0, idn_1, idn_2, resRow, res_ro, rExtract_tup, par_eq, evn]; refine hk _ ?_; clear hk k; try show Sat _ _ _ _ _)
    refine Sat.ret ?_
    simp only [Try.results17, evr, id, seval, res_one, par_one, idn_one, idn_0, idn_1, idn_2, List.append_nil, Int.toNat_zero, Nat.sub_self, Int.reduceToNat, resRow, res_ro, rExtract_tup, par_eq]
    unfold validEv
    rw [hp]
    rfl
  have hp : evPre e = true := by simpa using h
  refine Sat.skip ?_
  simp only [thenK]
  have hlen : e.ids.length ≠ 0 := by
    unfold evPre at hp
    exact (of_decide_eq_true hp).2.2.2
  (repeat refine Sat.seq ?_)
  (refine Sat.region_k fun k hk => ?_; simp -implicitDefEqProofs only [evr, id, seval, res_one, par_one, idn_one, idn_0, idn_1, idn_2, resRow, res_ro, rExtract_tup, par_eq, evn]; refine hk _ ?_; clear hk k; try show Sat _ _ _ _ _)
  (repeat refine Sat.seq ?_)
  refine Sat.block ?_
  refine Sat.loop (ι := Nat) (fun i => ⟨50, [(3, .i .i64 i), (1, .op 0 b1 0), (2, .ff)], [.box b1 37 [.i .i64 e.kind, .i .u32 e.a, .i .u32 e.b, .sl e.ad e.ids.length e.cap 3 (idnRd e.ids.toArray)]]⟩)
    (fun i => 1 ≤ i ∧ i ≤ e.ids.length ∧ ∀ q, q + 1 < i → idnLt (e.ids.getD q default) (e.ids.getD (q + 1) default) = true) (fun i => e.ids.length - i) 1 ⟨Nat.le_refl _, by omega, fun q hq => by omega⟩ (by simp -implicitDefEqProofs only [evr, id, seval, res_one, par_one, idn_one, idn_0, idn_1, idn_2, resRow, res_ro, rExtract_tup, par_eq, evl, evn]; try rfl) ?_
  rintro i ⟨hi1, hi, hq⟩
  (repeat refine Sat.seq ?_)
  (refine Sat.region_k fun k hk => ?_; simp -implicitDefEqProofs only [evr, id, seval, res_one, par_one, idn_one, idn_0, idn_1, idn_2, resRow, res_ro, rExtract_tup, par_eq, evn]; refine hk _ ?_; clear hk k; try show Sat _ _ _ _ _)
  (repeat refine Sat.seq ?_)
  refine Sat.cond_b rfl (fun h2 => ?_) (fun h2 => ?_)
  · have hlt : i < e.ids.length := by simp only [decide_eq_true_eq] at h2; omega
    have e1 : IntKind.i64.wrap ((i : Int) + 1) = ((i + 1 : Nat) : Int) := by rw [w64 (by omega)]; omega
    have e2 : IntKind.i64.wrap ((i : Int) - 1) = ((i - 1 : Nat) : Int) := by rw [w64 (by omega)]; omega
    refine Sat.skip ?_
    simp only [thenK]
    (repeat refine Sat.seq ?_)
    refine Sat.block ?_
    (repeat refine Sat.seq ?_)
    (refine Sat.region_rows [⟨0, 38, 2, 0⟩, ⟨1, 39, 137438953472, 1⟩, ⟨0, 40, 8, 0⟩, ⟨4, 41, 549755813888, 0⟩, ⟨10, 42, 1374389534720, 0⟩, ⟨16, 43, 2199023255552, 1⟩, ⟨0, 44, 2, 0⟩, ⟨64, 45, 8796093022208, 1⟩, ⟨0, 46, 8, 0⟩, ⟨384, 47, 52776558133248, 0⟩, ⟨512, 48, 70368744177664, 1⟩, ⟨1056, 49, 145135534866432, 2⟩, ⟨2048, 50, 281474976710656, 0⟩] [0, 2, 3, 6, 8, 1, 7, 4, 9, 5, 10] [(11, false), (12, false)] [] (by kernel_rfl) (by kernel_rfl) (fun _ _ h => h) fun k hk => ?_; simp only [List.map_cons, List.map_nil, List.getD_cons_zero, List.getD_cons_succ, btseq_cons, btseq_free, btseq_nil]; simp -implicitDefEqProofs only [evr, id, seval, res_one, par_one, idn_one, idn_0, idn_1, idn_2, resRow, res_ro, rExtract_tup, par_eq, evn])
    simp only [e2, Int.toNat_natCast]
    refine ⟨⟨by omega, by omega⟩, by omega, ?_⟩
    refine wcall_plain (compareIdC F e.ids.toArray[i - 1]! e.ids.toArray[i]!) rfl (by rintro _ rfl; exact ok_plain rfl) ?_
    rintro _ rfl
    simp -implicitDefEqProofs only [evr, id, seval, res_one, par_one, idn_one, idn_0, idn_1, idn_2, resRow, res_ro, rExtract_tup, par_eq, evn]
    (refine hk _ ?_; clear hk k; try show Sat _ _ _ _ _)
    have g1 : e.ids.toArray[i - 1]! = e.ids.getD (i - 1) default := by simp [getElem!_def, List.getD, show i - 1 < e.ids.length by omega]
    have g2 : e.ids.toArray[i]! = e.ids.getD i default := by simp [getElem!_def, List.getD, hlt]
    rw [g1, g2]
    (repeat refine Sat.seq ?_)
    refine Sat.cond_b rfl (fun h3 => ?_) (fun h3 => ?_)
    · have hno : idnLt (e.ids.getD (i - 1) default) (e.ids.getD i default) = false := by
        unfold idnLt
        simp only [decide_eq_true_eq, ge_iff_le] at h3
        rw [decide_eq_false_iff_not]
        omega
      (repeat refine Sat.seq ?_)
      (refine Sat.region_k fun k hk => ?_; simp -implicitDefEqProofs only [evr, id, seval, res_one, par_one, idn_one, idn_0, idn_1, idn_2, resRow, res_ro, rExtract_tup, par_eq, evn]; refine hk _ ?_; clear hk k; try show Sat _ _ _ _ _)
      refine Sat.ret ?_
      simp only [blockK, Try.results17, evr, id, seval, res_one, par_one, idn_one, idn_0, idn_1, idn_2, List.append_nil, Int.toNat_zero, Nat.sub_self, Int.reduceToNat, resRow, res_ro, rExtract_tup, par_eq]
      have : idsAsc e.ids = false := by
        cases hA : idsAsc e.ids with
        | false => rfl
        | true =>
          unfold idsAsc at hA
          have := of_decide_eq_true hA (i - 1) (by omega)
          rw [show i - 1 + 1 = i by omega, hno] at this
          cases this
      unfold validEv
      rw [this, Bool.and_false]
    have hyes : idnLt (e.ids.getD (i - 1) default) (e.ids.getD i default) = true := by
      unfold idnLt
      simp only [decide_eq_false_iff_not, ge_iff_le] at h3
      rw [decide_eq_true_eq]
      omega
    refine Sat.skip ?_
    simp only [thenK, blockK]
    refine Sat.region_k fun k hk => ?_
    simp -implicitDefEqProofs only [evr, id, seval, res_one, par_one, idn_one, idn_0, idn_1, idn_2, resRow, res_ro, rExtract_tup, par_eq, e1, evn]
    refine hk _ ?_
    simp only [thenK, blockK]
    refine ⟨i + 1, ⟨by omega, by omega, fun q hq2 => ?_⟩, by omega, ?_⟩
    · by_cases hqi : q + 1 < i
      · exact hq q hqi
      · obtain rfl : q = i - 1 := by omega
        rw [show i - 1 + 1 = i by omega]
        exact hyes
    · simp -implicitDefEqProofs only [evr, id, seval, res_one, par_one, idn_one, idn_0, idn_1, idn_2, resRow, res_ro, rExtract_tup, par_eq, evl, evn]
  · have hie : i = e.ids.length := by simp only [decide_eq_false_iff_not] at h2; omega
    refine Sat.exit ?_
    simp only [thenK, blockK, reduceIte]
    (repeat refine Sat.seq ?_)
    (refine Sat.region_k fun k hk => ?_; simp -implicitDefEqProofs only [evr, id, seval, res_one, par_one, idn_one, idn_0, idn_1, idn_2, resRow, res_ro, rExtract_tup, par_eq, evn]; refine hk _ ?_; clear hk k; try show Sat _ _ _ _ _)
    refine Sat.ret ?_
    simp only [Try.results17, evr, id, seval, res_one, par_one, idn_one, idn_0, idn_1, idn_2, List.append_nil, Int.toNat_zero, Nat.sub_self, Int.reduceToNat, resRow, res_ro, rExtract_tup, par_eq]
    have : idsAsc e.ids = true := by
      unfold idsAsc
      rw [decide_eq_true_eq]
      intro q hq2
      exact hq q (by omega)
    unfold validEv
    rw [hp, this]
    rfl
def idShows (xs : List Res) (e : Evd) (d : Idn) : Bool := match findV xs d with
  | some r => decide (showR r = some e.pr)
  | none => false
def holdsV (xs : List Res) (e : Evd) : Bool := (validEv e && decide (e.kind = 1)) && e.ids.all (idShows xs e)
set_option maxHeartbeats 1000000 in
set_option maxRecDepth 100000 in
theorem holdsC (F : Frm) (ad : Option Addr) (cap : Nat) (xs : List Res) (e : Evd) (hl : xs.length ≤ 1000000000) (he : e.ids.length ≤ 1000000000) :
    Contract F Try.prog 12 [.sl ad xs.length cap 17 (resRd xs.toArray), evAg e] (fun r => r = .b (holdsV xs e)) := by
  refine contract_of Try.func12 rfl (by kernel_rfl) ?_
  simp only [Try.ntmps12, argEnv, evAg, Evd.cs]
  (repeat refine Sat.seq ?_)
  (refine Sat.region_k fun k hk => ?_; simp -implicitDefEqProofs only [evr, id, seval, res_one, par_one, idn_one, idn_0, idn_1, idn_2, resRow, res_ro, rExtract_tup, par_eq, evn])
  intro b3
  (refine hk _ ?_; clear hk k; try show Sat _ _ _ _ _)
  (repeat refine Sat.seq ?_)
  refine Sat.joinK (ι := Bool) (fun q => ⟨51, [(18, .b q), (3, .op 0 b3 0), (4, .ff), (0, .sl ad xs.length cap 17 (resRd xs.toArray))], [.box b3 37 [.i .i64 e.kind, .i .u32 e.a, .i .u32 e.b, .sl e.ad e.ids.length e.cap 3 (idnRd e.ids.toArray)]]⟩) (fun q => q = !(validEv e && decide (e.kind = 1))) (fun hrest => ?_) ?_
  · (refine Sat.region_k fun k hk => ?_; simp -implicitDefEqProofs only [evr, id, seval, res_one, par_one, idn_one, idn_0, idn_1, idn_2, resRow, res_ro, rExtract_tup, par_eq, evn])
    refine wcall_plain (validEvC F e he) rfl (by rintro _ rfl; exact ok_plain rfl) ?_
    rintro _ rfl
    simp -implicitDefEqProofs only [evr, id, seval, res_one, par_one, idn_one, idn_0, idn_1, idn_2, resRow, res_ro, rExtract_tup, par_eq, evn]
    refine ⟨fun h1 => ?_, fun h1 => ?_⟩
    · refine hk _ ?_
      simp only [thenK]
      refine (hrest true (by simp at h1; rw [h1]; rfl)).le ?_
      simp -implicitDefEqProofs only [evr, id, seval, res_one, par_one, idn_one, idn_0, idn_1, idn_2, resRow, res_ro, rExtract_tup, par_eq, evl, evn]
    · refine hk _ ?_
      simp only [thenK]
      refine (hrest (e.kind != 1) (by simp at h1; rw [h1, Bool.true_and]; rfl)).le ?_
      simp -implicitDefEqProofs only [evr, id, seval, res_one, par_one, idn_one, idn_0, idn_1, idn_2, resRow, res_ro, rExtract_tup, par_eq, evl, evn]
  rintro q rfl
  (repeat refine Sat.seq ?_)
  refine Sat.cond_b rfl (fun h => ?_) (fun h => ?_)
  · (repeat refine Sat.seq ?_)
    (refine Sat.region_k fun k hk => ?_; simp -implicitDefEqProofs only [evr, id, seval, res_one, par_one, idn_one, idn_0, idn_1, idn_2, resRow, res_ro, rExtract_tup, par_eq, evn]; refine hk _ ?_; clear hk k; try show Sat _ _ _ _ _)
    refine Sat.ret ?_
    simp only [Try.results12, evr, id, seval, res_one, par_one, idn_one, idn_0, idn_1, idn_2, List.append_nil, Int.toNat_zero, Nat.sub_self, Int.reduceToNat, resRow, res_ro, rExtract_tup, par_eq]
    unfold holdsV
    simp only [Bool.not_eq_true'] at h
    rw [h]
    rfl
  simp only [Bool.not_eq_false'] at h
  refine Sat.skip ?_
  simp only [thenK]
  (repeat refine Sat.seq ?_)
  (refine Sat.region_k fun k hk => ?_; simp -implicitDefEqProofs only [evr, id, seval, res_one, par_one, idn_one, idn_0, idn_1, idn_2, resRow, res_ro, rExtract_tup, par_eq, evn]; refine hk _ ?_; clear hk k; try show Sat _ _ _ _ _)
  (repeat refine Sat.seq ?_)
  refine Sat.block ?_
  refine Sat.loop (ι := Nat) (fun i => ⟨51, [(22, .i .i64 i), (21, .i .i64 e.ids.length), (20, .sl e.ad e.ids.length e.cap 3 (idnRd e.ids.toArray)), (3, .op 0 b3 0), (4, .ff), (0, .sl ad xs.length cap 17 (resRd xs.toArray))], [.box b3 37 [.i .i64 e.kind, .i .u32 e.a, .i .u32 e.b, .sl e.ad e.ids.length e.cap 3 (idnRd e.ids.toArray)]]⟩)
    (fun i => i ≤ e.ids.length ∧ ∀ d ∈ e.ids.take i, idShows xs e d = true) (fun i => e.ids.length - i) 0 ⟨Nat.zero_le _, fun d hd => by simp at hd⟩ (by simp -implicitDefEqProofs only [evr, id, seval, res_one, par_one, idn_one, idn_0, idn_1, idn_2, resRow, res_ro, rExtract_tup, par_eq, evl, evn]; try rfl) ?_
  rintro i ⟨hi, hq⟩
  (repeat refine Sat.seq ?_)
  (refine Sat.region_k fun k hk => ?_; simp -implicitDefEqProofs only [evr, id, seval, res_one, par_one, idn_one, idn_0, idn_1, idn_2, resRow, res_ro, rExtract_tup, par_eq, evn]; refine hk _ ?_; clear hk k; try show Sat _ _ _ _ _)
  (repeat refine Sat.seq ?_)
  refine Sat.cond_b rfl (fun h2 => ?_) (fun h2 => ?_)
  · have hlt : i < e.ids.length := by simp only [decide_eq_true_eq] at h2; omega
    have e1 : IntKind.i64.wrap ((i : Int) + 1) = ((i + 1 : Nat) : Int) := by rw [w64 (by omega)]; omega
    obtain ⟨d, hd⟩ : ∃ d, d = e.ids.toArray[i]! := ⟨_, rfl⟩
    have hdi : e.ids[i] = d := by rw [hd]; simp [getElem!_def, hlt]
    have hbad : idShows xs e d = false → holdsV xs e = false := fun hb => by
      unfold holdsV
      rw [Bool.and_eq_false_iff]
      right
      rw [List.all_eq_false]
      exact ⟨d, by rw [← hdi]; exact List.getElem_mem _, by rw [hb]; decide⟩
    refine Sat.skip ?_
    simp only [thenK]
    (repeat refine Sat.seq ?_)
    refine Sat.block ?_
    (repeat refine Sat.seq ?_)
    (refine Sat.region_k fun k hk => ?_; simp -implicitDefEqProofs only [evr, id, seval, res_one, par_one, idn_one, idn_0, idn_1, idn_2, resRow, res_ro, rExtract_tup, par_eq, evn])
    refine ⟨by omega, fun b6 => ?_⟩
    (refine hk _ ?_; clear hk k; try show Sat _ _ _ _ _)
    (repeat refine Sat.seq ?_)
    (refine Sat.region_k fun k hk => ?_; simp -implicitDefEqProofs only [evr, id, seval, res_one, par_one, idn_one, idn_0, idn_1, idn_2, resRow, res_ro, rExtract_tup, par_eq, evn])
    refine wcall_plain (findC F ad cap xs e.ids.toArray[i]! hl) rfl (by rintro _ rfl; exact findS_ok _) ?_
    rintro _ rfl
    rw [← hd]
    cases hf : findV xs d with
    | none =>
      have hio : idShows xs e d = false := by unfold idShows; rw [hf]
      simp only [findS, tupL, resAg, Res.cs, evr, id, seval, res_one, par_one, idn_one, idn_0, idn_1, idn_2, List.append_nil, Int.toNat_zero, Nat.sub_self, Int.reduceToNat, resRow, res_ro, rExtract_tup, par_eq]
      intro b7
      (refine hk _ ?_; clear hk k; try show Sat _ _ _ _ _)
      (repeat refine Sat.seq ?_)
      (refine Sat.region_k fun k hk => ?_; simp -implicitDefEqProofs only [evr, id, seval, res_one, par_one, idn_one, idn_0, idn_1, idn_2, resRow, res_ro, rExtract_tup, par_eq, evn]; refine hk _ ?_; clear hk k; try show Sat _ _ _ _ _)
      (repeat refine Sat.seq ?_)
      refine Sat.cond_b rfl (fun h3 => ?_) (fun h3 => absurd h3 (by decide))
      (repeat refine Sat.seq ?_)
      (refine Sat.region_k fun k hk => ?_; simp -implicitDefEqProofs only [evr, id, seval, res_one, par_one, idn_one, idn_0, idn_1, idn_2, resRow, res_ro, rExtract_tup, par_eq, evn]; refine hk _ ?_; clear hk k; try show Sat _ _ _ _ _)
      refine Sat.ret ?_
      simp only [blockK, Try.results12, evr, id, seval, res_one, par_one, idn_one, idn_0, idn_1, idn_2, List.append_nil, Int.toNat_zero, Nat.sub_self, Int.reduceToNat, resRow, res_ro, rExtract_tup, par_eq]
      rw [hbad hio]
    | some r =>
      have hio : idShows xs e d = decide (showR r = some e.pr) := by unfold idShows; rw [hf]
      simp only [findS, tupL, resAg, Res.cs, evr, id, seval, res_one, par_one, idn_one, idn_0, idn_1, idn_2, List.append_nil, Int.toNat_zero, Nat.sub_self, Int.reduceToNat, resRow, res_ro, rExtract_tup, par_eq]
      intro b7
      (refine hk _ ?_; clear hk k; try show Sat _ _ _ _ _)
      (repeat refine Sat.seq ?_)
      (refine Sat.region_k fun k hk => ?_; simp -implicitDefEqProofs only [evr, id, seval, res_one, par_one, idn_one, idn_0, idn_1, idn_2, resRow, res_ro, rExtract_tup, par_eq, evn]; refine hk _ ?_; clear hk k; try show Sat _ _ _ _ _)
      (repeat refine Sat.seq ?_)
      refine Sat.cond_b rfl (fun h3 => absurd h3 (by decide)) (fun h3 => ?_)
      refine Sat.skip ?_
      simp only [thenK]
      (repeat refine Sat.seq ?_)
      (refine Sat.region_k fun k hk => ?_; simp -implicitDefEqProofs only [evr, id, seval, res_one, par_one, idn_one, idn_0, idn_1, idn_2, resRow, res_ro, rExtract_tup, par_eq, evn])
      refine wcall_plain (showC F r) rfl (by rintro _ rfl; exact showS_ok _) ?_
      rintro _ rfl
      cases hs : showR r with
      | none =>
        have hb : idShows xs e d = false := by rw [hio, hs]; rfl
        simp only [showS, tupL, parAg, Par.cs, evr, id, seval, res_one, par_one, idn_one, idn_0, idn_1, idn_2, List.append_nil, Int.toNat_zero, Nat.sub_self, Int.reduceToNat, resRow, res_ro, rExtract_tup, par_eq]
        intro b9
        (refine hk _ ?_; clear hk k; try show Sat _ _ _ _ _)
        (repeat refine Sat.seq ?_)
        (refine Sat.region_k fun k hk => ?_; simp -implicitDefEqProofs only [evr, id, seval, res_one, par_one, idn_one, idn_0, idn_1, idn_2, resRow, res_ro, rExtract_tup, par_eq, evn]; refine hk _ ?_; clear hk k; try show Sat _ _ _ _ _)
        (repeat refine Sat.seq ?_)
        refine Sat.cond_tt rfl ?_
        (repeat refine Sat.seq ?_)
        (refine Sat.region_k fun k hk => ?_; simp -implicitDefEqProofs only [evr, id, seval, res_one, par_one, idn_one, idn_0, idn_1, idn_2, resRow, res_ro, rExtract_tup, par_eq, evn]; refine hk _ ?_; clear hk k; try show Sat _ _ _ _ _)
        refine Sat.ret ?_
        simp only [blockK, Try.results12, evr, id, seval, res_one, par_one, idn_one, idn_0, idn_1, idn_2, List.append_nil, Int.toNat_zero, Nat.sub_self, Int.reduceToNat, resRow, res_ro, rExtract_tup, par_eq]
        rw [hbad hb]
      | some p =>
        have hb : idShows xs e d = decide (p = e.pr) := by rw [hio, hs]; simp
        simp only [showS, tupL, parAg, Par.cs, evr, id, seval, res_one, par_one, idn_one, idn_0, idn_1, idn_2, List.append_nil, Int.toNat_zero, Nat.sub_self, Int.reduceToNat, resRow, res_ro, rExtract_tup, par_eq]
        intro b9
        (refine hk _ ?_; clear hk k; try show Sat _ _ _ _ _)
        (repeat refine Sat.seq ?_)
        (refine Sat.region_k fun k hk => ?_; simp -implicitDefEqProofs only [evr, id, seval, res_one, par_one, idn_one, idn_0, idn_1, idn_2, resRow, res_ro, rExtract_tup, par_eq, evn]; refine hk _ ?_; clear hk k; try show Sat _ _ _ _ _)
        (repeat refine Sat.seq ?_)
        refine Sat.cond_b rfl (fun h4 => ?_) (fun h4 => ?_)
        · have hb2 : idShows xs e d = false := by
            rw [hb]
            simp only [Bool.not_eq_true', decide_eq_false_iff_not] at h4
            exact decide_eq_false h4
          (repeat refine Sat.seq ?_)
          (refine Sat.region_k fun k hk => ?_; simp -implicitDefEqProofs only [evr, id, seval, res_one, par_one, idn_one, idn_0, idn_1, idn_2, resRow, res_ro, rExtract_tup, par_eq, evn]; refine hk _ ?_; clear hk k; try show Sat _ _ _ _ _)
          refine Sat.ret ?_
          simp only [blockK, Try.results12, evr, id, seval, res_one, par_one, idn_one, idn_0, idn_1, idn_2, List.append_nil, Int.toNat_zero, Nat.sub_self, Int.reduceToNat, resRow, res_ro, rExtract_tup, par_eq]
          rw [hbad hb2]
        have hb2 : idShows xs e d = true := by
          rw [hb]
          simp only [Bool.not_eq_false', decide_eq_true_eq] at h4
          exact decide_eq_true h4
        refine Sat.skip ?_
        simp only [thenK, blockK]
        refine Sat.region_k fun k hk => ?_
        simp -implicitDefEqProofs only [evr, id, seval, res_one, par_one, idn_one, idn_0, idn_1, idn_2, resRow, res_ro, rExtract_tup, par_eq, e1, evn]
        refine hk _ ?_
        simp only [thenK, blockK]
        refine ⟨i + 1, ⟨by omega, fun q hq2 => ?_⟩, by omega, ?_⟩
        · rw [List.take_succ_eq_append_getElem hlt, hdi] at hq2
          rcases List.mem_append.1 hq2 with h9 | h9
          · exact hq q h9
          · rw [List.mem_singleton] at h9; subst h9; exact hb2
        · simp -implicitDefEqProofs only [evr, id, seval, res_one, par_one, idn_one, idn_0, idn_1, idn_2, resRow, res_ro, rExtract_tup, par_eq, evl, evn]
  · have hie : i = e.ids.length := by simp only [decide_eq_false_iff_not] at h2; omega
    subst hie
    rw [List.take_length] at hq
    refine Sat.exit ?_
    simp only [thenK, blockK, reduceIte]
    (repeat refine Sat.seq ?_)
    (refine Sat.region_k fun k hk => ?_; simp -implicitDefEqProofs only [evr, id, seval, res_one, par_one, idn_one, idn_0, idn_1, idn_2, resRow, res_ro, rExtract_tup, par_eq, evn]; refine hk _ ?_; clear hk k; try show Sat _ _ _ _ _)
    refine Sat.ret ?_
    simp only [Try.results12, evr, id, seval, res_one, par_one, idn_one, idn_0, idn_1, idn_2, List.append_nil, Int.toNat_zero, Nat.sub_self, Int.reduceToNat, resRow, res_ro, rExtract_tup, par_eq]
    have : e.ids.all (idShows xs e) = true := List.all_eq_true.2 hq
    unfold holdsV
    rw [h, this]
    rfl
end Go.Proofs.Ytepbdjpcoleegaa


/- The example of the chapter, by the evaluator: awake of law 28. -/
namespace Go.Proofs.Ytepbdjpcoleegaa
open Go.Sort Eng
namespace Eng
theorem simA_mem : ∀ {l l' : List SV}, simA l l' → ∀ s' ∈ l', ∃ s ∈ l, sim s s'
  | [], [], _, s', h => by cases h
  | [], _ :: _, h, _, _ => h.elim
  | _ :: _, [], h, _, _ => h.elim
  | s :: l, t :: l', h, s', hs => by
    rcases List.mem_cons.1 hs with rfl | hs
    · exact ⟨s, by simp, h.1⟩
    · obtain ⟨x, hx, h2⟩ := simA_mem h.2 s' hs
      exact ⟨x, by simp [hx], h2⟩
theorem Sat.rebox {P : Program} {F : Frm} {n : Nat} {env : List (Nat × SV)} {own : List Own} {c : Code} {K : Exit → St → Prop} (id : Nat) {blk ty : Nat} {cs : List SV} (cs' : List SV) (hid : own[id]? = some (.box blk ty cs)) (hs : simA cs cs')
    (h : Sat P F c ⟨n, env, own.set id (.box blk ty cs')⟩ K) : Sat P F c ⟨n, env, own⟩ K := by
  rintro R0 w0 a w ⟨ob, R, hr⟩
  obtain ⟨b1, b2, b3, b4⟩ := hr.own id _ hid
  have hset := hr.setOwn (o' := .box blk ty cs') (g := blk) hid rfl (fun b hb => by simpa [Own.blk] using hb.symm) (w' := w) rfl rfl rfl (Nat.le_refl _) (fun _ _ _ => rfl)
    ⟨b1, b2, by rw [← simA_den hs]; exact b3, fun x hx => by
      obtain ⟨y, hy, hxy⟩ := simA_mem hs x hx
      have := b4 y hy
      exact ⟨by rw [← hxy.1]; exact this.1, hxy.2 R w this.2⟩⟩
  exact h R0 w0 a w ⟨ob, R, hset⟩
end Eng
theorem ev_0 (es : List Evd) (i : Nat) : evRd es i 0 = .i .i64 (es.getD i default).kind := rfl
theorem ev_1 (es : List Evd) (i : Nat) : evRd es i 1 = .i .u32 (es.getD i default).a := rfl
theorem ev_2 (es : List Evd) (i : Nat) : evRd es i 2 = .i .u32 (es.getD i default).b := rfl
theorem ev_3 (es : List Evd) (i : Nat) : evRd es i 3 = .sl (es.getD i default).ad (es.getD i default).ids.length (es.getD i default).cap 3 (idnRd (es.getD i default).ids.toArray) := rfl
theorem c1I : ((1 : Nat) : Int) = 1 := rfl
theorem sim_tt : sim .tt (.b true) := ⟨rfl, fun _ _ _ => trivial⟩
def aw8 : Res := ⟨0, 0, 0, 0, 9, 17, 0, 3, true, false, 5, 5, 3, 0, 0, 0, 0⟩
theorem aw8_show : showR aw8 = some ⟨5, 9⟩ := by decide
theorem aw8_pairs {es : List Evd} (h : PairsOf [aw8] es) : ∃ ad cap, es = [⟨1, 5, 9, [⟨0, 0, 0⟩], ad, cap⟩] := by
  have key : ∀ p d, (∃ e ∈ es, e.pr = p ∧ d ∈ e.ids) ↔ p = ⟨5, 9⟩ ∧ d = ⟨0, 0, 0⟩ := fun p d => (h.mem p d).trans (by
    constructor
    · rintro ⟨r, hr, h1, h2⟩
      rw [List.mem_singleton] at hr
      subst hr
      rw [aw8_show] at h1
      exact ⟨(Option.some.inj h1).symm, h2.symm⟩
    · rintro ⟨rfl, rfl⟩
      exact ⟨aw8, by simp, aw8_show, rfl⟩)
  have hall : ∀ e ∈ es, e.pr = ⟨5, 9⟩ ∧ e.ids = [⟨0, 0, 0⟩] := fun e he => by
    obtain ⟨_, hp, hne, _⟩ := h.each e he
    have hd : ∀ d ∈ e.ids, e.pr = ⟨5, 9⟩ ∧ d = ⟨0, 0, 0⟩ := fun d hd => (key e.pr d).1 ⟨e, he, rfl, hd⟩
    match hi : e.ids, hne with
    | [x], _ => rw [hi] at hd; obtain ⟨h1, h2⟩ := hd x (by simp); exact ⟨h1, by rw [h2]⟩
    | x :: y :: l, _ =>
      rw [hi] at hd hp
      have h1 := (hd x (by simp)).2
      have h2 := (hd y (by simp)).2
      have := (List.pairwise_cons.1 hp).1 y (by simp)
      rw [h1, h2, idnLt_irrefl] at this
      cases this
  obtain ⟨e0, he0, _, _⟩ := (key ⟨5, 9⟩ ⟨0, 0, 0⟩).2 ⟨rfl, rfl⟩
  match es, h, hall, he0 with
  | [e], h, hall, _ =>
    obtain ⟨h1, h2⟩ := hall e (by simp)
    have h3 := (h.each e (by simp)).1
    obtain ⟨k, a, b, ids, ad, cap⟩ := e
    simp only [Evd.pr, Par.mk.injEq] at h1 h2 h3
    obtain ⟨rfl, rfl⟩ := h1
    subst h2 h3
    exact ⟨ad, cap, rfl⟩
  | x :: y :: l, h, hall, _ =>
    have h1 := (hall x (by simp)).1
    have h2 := (hall y (by simp)).1
    have := (List.pairwise_cons.1 h.asc).1 y (by simp)
    rw [h1, h2, parLt_irrefl] at this
    cases this
theorem pairs2 (F : Frm) (bs : Nat) (ead : Option Addr) (ecap : Nat) : Contract F Try.prog 12 [.sl (some ⟨bs, 0, none⟩) 1 1 17 (resRd [aw8].toArray), evAg ⟨1, 5, 9, [⟨0, 0, 0⟩], ead, ecap⟩] (fun r => r = .b (holdsV [aw8] ⟨1, 5, 9, [⟨0, 0, 0⟩], ead, ecap⟩)) :=
  holdsC F (some ⟨bs, 0, none⟩) 1 [aw8] ⟨1, 5, 9, [⟨0, 0, 0⟩], ead, ecap⟩ (by decide) (show 1 ≤ 1000000000 by decide)
theorem holdsN (F : Frm) (ead : Option Addr) (ecap : Nat) : Contract F Try.prog 12 [.sl none 0 0 0 fun _ _ => .v undef, evAg ⟨1, 5, 9, [⟨0, 0, 0⟩], ead, ecap⟩] (fun r => r = .b (holdsV [] ⟨1, 5, 9, [⟨0, 0, 0⟩], ead, ecap⟩)) :=
  Contract.of_sim (holdsC F none 0 [] ⟨1, 5, 9, [⟨0, 0, 0⟩], ead, ecap⟩ (by decide) (show 1 ≤ 1000000000 by decide)) ⟨⟨rfl, fun R w _ => ⟨Nat.le_refl _, Nat.zero_le _, .inl rfl⟩⟩, sim_refl _, trivial⟩
set_option maxHeartbeats 1000000 in
set_option maxRecDepth 100000 in
theorem awakeC (F : Frm) : Contract F Try.prog 7 [] (fun r => r = .b true) := by
  refine contract_of Try.func7 rfl (by kernel_rfl) ?_
  simp only [Try.ntmps7, argEnv]
  (repeat refine Sat.seq ?_)
  (refine Sat.region_k fun k hk => ?_; simp -implicitDefEqProofs only [evr, id, seval, res_one, par_one, idn_one, idn_0, idn_1, idn_2, resRow, res_ro, rExtract_tup, par_eq, ev_0, ev_1, ev_2, ev_3, c1I, evn]; refine hk _ ?_; clear hk k; try show Sat _ _ _ _ _)
  (repeat refine Sat.seq ?_)
  (refine Sat.region_k fun k hk => ?_; simp -implicitDefEqProofs only [evr, id, seval, res_one, par_one, idn_one, idn_0, idn_1, idn_2, resRow, res_ro, rExtract_tup, par_eq, ev_0, ev_1, ev_2, ev_3, c1I, evn])
  intro b1
  (refine hk _ ?_; clear hk k; try show Sat _ _ _ _ _)
  refine Sat.rebox 0 (Res.cs aw8) rfl ⟨sim_refl _, sim_refl _, sim_refl _, sim_refl _, sim_refl _, sim_refl _, sim_refl _, sim_refl _, sim_tt, sim_refl _, sim_refl _, sim_refl _, sim_refl _, sim_refl _, sim_refl _, sim_refl _, sim_refl _, trivial⟩ ?_
  simp only [Res.cs, aw8, List.set_cons_zero]
  have hrow : rdEq 1 17 (rdL (Res.cs aw8) 17) (resRd [aw8].toArray) := by
    intro i j hi hj
    obtain rfl : i = 0 := by omega
    unfold rdL resRd
    rw [Nat.zero_mul, Nat.zero_add]
    rfl
  have hin : ∀ r ∈ [aw8], RgR r := by unfold RgR; decide
  (repeat refine Sat.seq ?_)
  (refine Sat.region_k fun k hk => ?_; simp -implicitDefEqProofs only [evr, id, seval, res_one, par_one, idn_one, idn_0, idn_1, idn_2, resRow, res_ro, rExtract_tup, par_eq, ev_0, ev_1, ev_2, ev_3, c1I, evn])
  intro bs
  refine wcall_slice (Contract.of_sim (args := [.sl (some ⟨bs, 0, none⟩) 1 1 17 (rdL (Res.cs aw8) 17)]) (pairsC F (some ⟨bs, 0, none⟩) 1 [aw8] (by decide) hin) ⟨sim_sl hrow, trivial⟩) rfl (by simp only [Res.cs, aw8, evr, id, seval, res_one, par_one, idn_one, idn_0, idn_1, idn_2, List.append_nil, Int.toNat_zero, Nat.sub_self, Int.reduceToNat, resRow, res_ro, rExtract_tup, par_eq, ev_0, ev_1, ev_2, ev_3, c1I]; try rfl) ?_
  rintro r (⟨hbad, _⟩ | ⟨_, a, c, es, hes, rfl⟩)
  · exact absurd hbad (by decide)
  obtain ⟨ead, ecap, rfl⟩ := aw8_pairs hes
  simp -implicitDefEqProofs only [evr, id, seval, res_one, par_one, idn_one, idn_0, idn_1, idn_2, resRow, res_ro, rExtract_tup, par_eq, ev_0, ev_1, ev_2, ev_3, c1I, evn]
  (refine hk _ ?_; clear hk k; try show Sat _ _ _ _ _)
  (repeat refine Sat.seq ?_)
  (refine Sat.region_k fun k hk => ?_; simp -implicitDefEqProofs only [evr, id, seval, res_one, par_one, idn_one, idn_0, idn_1, idn_2, resRow, res_ro, rExtract_tup, par_eq, ev_0, ev_1, ev_2, ev_3, c1I, evn])
  refine wcall_plain (showC F aw8) (by simp only [resAg, Res.cs, aw8, evr, id, seval, res_one, par_one, idn_one, idn_0, idn_1, idn_2, List.append_nil, Int.toNat_zero, Nat.sub_self, Int.reduceToNat, resRow, res_ro, rExtract_tup, par_eq, ev_0, ev_1, ev_2, ev_3, c1I]; try rfl) (by rintro _ rfl; exact showS_ok _) ?_
  rintro _ rfl
  rw [aw8_show]
  simp only [showS, tupL, parAg, Par.cs, evr, id, seval, res_one, par_one, idn_one, idn_0, idn_1, idn_2, List.append_nil, Int.toNat_zero, Nat.sub_self, Int.reduceToNat, resRow, res_ro, rExtract_tup, par_eq, ev_0, ev_1, ev_2, ev_3, c1I]
  intro b4
  (refine hk _ ?_; clear hk k; try show Sat _ _ _ _ _)
  have hv : validEv ⟨1, 5, 9, [⟨0, 0, 0⟩], ead, ecap⟩ = true := by rfl
  have hh : holdsV [aw8] ⟨1, 5, 9, [⟨0, 0, 0⟩], ead, ecap⟩ = true := by rfl
  have hn : holdsV [] ⟨1, 5, 9, [⟨0, 0, 0⟩], ead, ecap⟩ = false := by rfl
  (repeat refine Sat.seq ?_)
  (refine Sat.region_tree (.keep [0, 1, 2, 3, 4, 5, 6, 7, 8, 9, 10, 11, 12, 13, 14, 15, 16, 17, 18, 19, 20, 21, 22, 23, 24, 25, 26, 27, 28, 29, 30, 31] [] (.one 32 (.one 33 (.one 34 (.one 35 (.one 36 (.one 37 (.free 39 (.one 38 (.one 40 (.one 41 (.one 42 (.free 45 (.free 46 (.alt 43 (.alt 44 (.one 47 (.one 48 (.one 49 (.one 50 (.one 51 (.one 52 (.one 53 (.one 54 (.one 55 (.one 56 (.one 57 .done))))))))))) (.alt 47 (.one 44 (.one 48 (.one 49 (.one 50 (.one 51 (.one 52 (.one 53 (.one 54 (.one 55 (.one 56 (.one 57 .done))))))))))) .none)) (.alt 47 (.one 43 (.one 44 (.one 48 (.one 49 (.one 50 (.one 51 (.one 52 (.one 53 (.one 54 (.one 55 (.one 56 (.one 57 .done)))))))))))) .none)))))))))))))))) (by kernel_rfl) (by kernel_rfl) (fun _ _ h => h) fun k hk => ?_; simp only [WOT, List.map_cons, List.map_nil, List.getD_cons_zero, List.getD_cons_succ]; simp -implicitDefEqProofs only [evr, id, seval, res_one, par_one, idn_one, idn_0, idn_1, idn_2, resRow, res_ro, rExtract_tup, par_eq, ev_0, ev_1, ev_2, ev_3, c1I, WOT, evn])
  repeat' (first
    | (with_reducible refine And.intro ?_ ?_)
    | omega
    | decide
    | (refine wcall_plain (validEvC F ⟨1, 5, 9, [⟨0, 0, 0⟩], ead, ecap⟩ (show 1 ≤ 1000000000 by decide)) rfl (by rintro _ rfl; exact ok_plain rfl) ?_
       rintro _ rfl
       rw [hv]
       simp -implicitDefEqProofs only [evr, id, seval, res_one, par_one, idn_one, idn_0, idn_1, idn_2, resRow, res_ro, rExtract_tup, par_eq, ev_0, ev_1, ev_2, ev_3, c1I, evn])
    | (refine wcall_slice (Contract.of_sim (args := [.sl (some ⟨bs2, 0, none⟩) 1 1 17 (rdL (Res.cs aw8) 17), evAg ⟨1, 5, 9, [⟨0, 0, 0⟩], ead, ecap⟩]) (pairs2 F bs2 ead ecap) ⟨sim_sl hrow, sim_refl _, trivial⟩) rfl (by simp only [evAg, Evd.cs, Res.cs, aw8, evr, id, seval, res_one, par_one, idn_one, idn_0, idn_1, idn_2, List.append_nil, Int.toNat_zero, Nat.sub_self, Int.reduceToNat, resRow, res_ro, rExtract_tup, par_eq, ev_0, ev_1, ev_2, ev_3, c1I]; rfl) ?_
       rintro _ rfl
       rw [hh]
       simp -implicitDefEqProofs only [evr, id, seval, res_one, par_one, idn_one, idn_0, idn_1, idn_2, resRow, res_ro, rExtract_tup, par_eq, ev_0, ev_1, ev_2, ev_3, c1I, evn])
    | (refine wcall_plain (holdsN F ead ecap) rfl (by rintro _ rfl; exact ok_plain rfl) ?_
       rintro _ rfl
       rw [hn]
       simp -implicitDefEqProofs only [evr, id, seval, res_one, par_one, idn_one, idn_0, idn_1, idn_2, resRow, res_ro, rExtract_tup, par_eq, ev_0, ev_1, ev_2, ev_3, c1I, evn])
    | (with_reducible intro bs2)
    | (refine hk _ ?_
       simp only [thenK]
       refine Sat.ret ?_
       simp only [Try.results7, evr, id, seval, res_one, par_one, idn_one, idn_0, idn_1, idn_2, List.append_nil, Int.toNat_zero, Nat.sub_self, Int.reduceToNat, resRow, res_ro, rExtract_tup, par_eq, ev_0, ev_1, ev_2, ev_3, c1I]
       done))
end Go.Proofs.Ytepbdjpcoleegaa


/- Choices, for the evaluator: Next as a contract, Roll as what makes them. -/
namespace Go.Proofs.Ytepbdjpcoleegaa
open Go.RowKit Eng
def Frm.codes (cb : Nat) : Frm := ⟨fun b => b = cb, fun b => b = cb, Codes cb, fun _ h => h, fun w b h e => by subst e; exact h.lt, fun w w' B h hB hw => h.kept fun k hk => hw k (Nat.lt_of_le_of_lt hk (hB cb rfl))⟩
def ptr (cb : Nat) : SV := .v (.pointer (some ⟨cb, 0, none⟩))
theorem enters_of {P : Program} {f : FuncId} {fn : Func} {c : Code} (hf : P.funcs[f]? = some fn) (hb : fn.body = some c) (hname : (fn.name == "runtime.NumGoroutine") = false) : ∀ vs w, (callFunc f vs).run P w = .ok (.enter f vs) w := by
  intro vs w
  have hn : ¬ fn.name = "runtime.NumGoroutine" := by simpa using hname
  simp [callFunc, hf, hn, hb]
theorem nextC (cb : Nat) (n : Int) (h1 : -9223372036854775808 ≤ n) (h2 : n ≤ 9223372036854775807) : Contract (Frm.codes cb) Try.prog 10 [ptr cb, .i .i64 n] (fun r => ∃ x : Int, r = .i .i64 x ∧ 0 ≤ x ∧ (x < n ∨ x = 0)) := by
  refine ⟨enters_of Try.func10 rfl (by kernel_rfl), fun R w hinv _ hR => ?_⟩
  refine (next_calls cb n w hinv h1 h2).mono ?_
  rintro e w' ⟨r, rfl, hr0, hr1, hc, hg⟩
  exact ⟨.i .i64 r, rfl, ⟨r, rfl, hr0, hr1⟩, trivial, ⟨hg.os, hg.tape, hg.output, hg.size, fun b hb hm => hg.block b hb (fun e => hm (show b = cb by simpa using e))⟩, hc⟩
def isBytes (s : SV) : Prop := ∃ a len cap rd, s = .sl a len cap 1 rd ∧ ∀ i, i < len → ∃ x : Int, 0 ≤ x ∧ x < 256 ∧ rd i 0 = .i .u8 x
theorem new_made (a : Option Addr) (len cap : Nat) (w : World) (most : Nat) (h1 : len ≤ cap) (h2 : cap ≤ maxLen) (hm : most ≤ 65536) :
    Calls Try.prog 24 #[.slice a len cap, .int .i64 (most : Int)] w fun e w' => e = .returned (.pointer (some ⟨w.heap.size, 0, none⟩)) ∧ ∃ n, n ≤ len ∧ w' = w.alloc (.cells #[.slice a n cap, .int .i64 0] 74) := by
  unfold maxLen at h2
  by_cases hl : (most : Nat) < len
  · go_enter Try.func24, Try.ntmps24
    go_wp2
    go_ret
    exact ⟨rfl, most, by omega, rfl⟩
  · go_enter Try.func24, Try.ntmps24
    go_wp2
    go_ret
    exact ⟨rfl, len, by omega, rfl⟩
theorem roll_made (a : Option Addr) (len cap : Nat) (w : World) (h1 : len ≤ cap) (h2 : cap ≤ maxLen) :
    Calls Try.prog 8 #[.slice a len cap] w fun e w' => e = .returned (.pointer (some ⟨w.heap.size, 0, none⟩)) ∧ ∃ n, n ≤ len ∧ w' = w.alloc (.cells #[.slice a n cap, .int .i64 0] 74) := by
  have hc := fun w => new_made a len cap w 400 h1 h2 (by omega)
  have HC := Lib.hid hc
  clear hc h1 h2
  go_enter Try.func8, Try.ntmps8
  go_wp2_with fail
  refine (HC.out _).mono ?_
  rintro e w' ⟨rfl, n, hn, rfl⟩
  go_wp2
  go_ret
  exact ⟨rfl, n, hn, rfl⟩
theorem rollC (s : SV) (hs : isBytes s) : Makes Try.prog 8 [s] (fun cb w => Codes cb w) := by
  obtain ⟨a, len, cap, rd, rfl, hb⟩ := hs
  refine ⟨enters_of Try.func8 rfl (by kernel_rfl), fun R w hargs hR => ?_⟩
  obtain ⟨h1, h2, h3⟩ := hargs _ (List.mem_singleton.2 rfl)
  refine (roll_made a len cap w h1 h2).mono ?_
  rintro e w' ⟨rfl, n, hn, rfl⟩
  refine ⟨rfl, by simp, ⟨rfl, rfl, rfl, by simp, fun b hb _ => heap_alloc_old w _ hb⟩, fun w'' hw'' => ?_⟩
  refine ⟨a, n, cap, 0, (hw'' _ (.inr rfl)).trans (heap_alloc_new w _), by omega, Nat.zero_le _, ?_⟩
  rcases h3 with h3 | ⟨blk, off, rfl, hr, hc⟩
  · exact .inl (by omega)
  · have hlt := hR blk hr
    refine .inr ⟨blk, off, rfl, hlt, fun i hi => ?_⟩
    obtain ⟨x, hx0, hx1, hx⟩ := hb i (by omega)
    have h := (hc i 0 (by omega) (by omega)).1
    rw [hx, Nat.mul_one] at h
    exact ⟨x, hx0, hx1, by rw [World.cell?_of_block (w := w) (a := ⟨blk, off + i, none⟩) ((hw'' blk (.inl hr)).trans (heap_alloc_old w _ hlt))]; exact h⟩
end Go.Proofs.Ytepbdjpcoleegaa


/- Choices: Pick, Bool, Address, by the evaluator. -/
namespace Go.Proofs.Ytepbdjpcoleegaa
open Eng
set_option maxRecDepth 100000 in
theorem pickC (cb : Nat) (a : Option Addr) (len cap : Nat) (rd : Nat → Nat → SV) (Q : Int → Prop) (h0 : 0 < len) (h1 : len ≤ 1000) (hq : ∀ i, i < len → ∃ x : Int, rd i 0 = .i .i64 x ∧ Q x) :
    Contract (Frm.codes cb) Try.prog 26 [ptr cb, .sl a len cap 1 rd] (fun r => ∃ x : Int, r = .i .i64 x ∧ Q x) := by
  refine contract_of Try.func26 rfl (by kernel_rfl) ?_
  simp only [Try.ntmps26, argEnv, ptr]
  (repeat refine Sat.seq ?_)
  (refine Sat.region_k fun k hk => ?_; simp -implicitDefEqProofs only [evr, id, seval, ptr]; refine hk _ ?_; clear hk k; try show Sat _ _ _ _ _)
  (repeat refine Sat.seq ?_)
  (refine Sat.region_k fun k hk => ?_; simp -implicitDefEqProofs only [evr, id, seval, ptr])
  refine wcall_plain (nextC cb len (by omega) (by omega)) rfl (by rintro _ ⟨x, rfl, _⟩; exact ok_plain rfl) ?_
  rintro r ⟨x, rfl, hx0, hx1⟩
  obtain ⟨i, rfl⟩ := Int.eq_ofNat_of_zero_le hx0
  have hi : i < len := by omega
  obtain ⟨y, hy, hQ⟩ := hq i hi
  simp -implicitDefEqProofs only [evr, id, seval, ptr, hy]
  refine ⟨by omega, ?_⟩
  (refine hk _ ?_; clear hk k; try show Sat _ _ _ _ _)
  refine Sat.ret ?_
  simp only [Try.results26, evr, id, seval, ptr]
  exact ⟨y, rfl, hQ⟩
theorem pickI (cb blk : Nat) (xs : List Int) (Q : Int → Prop) (h0 : 0 < xs.length) (h1 : xs.length ≤ 1000) (hQ : ∀ x ∈ xs, Q x) :
    Contract (Frm.codes cb) Try.prog 26 [ptr cb, .sl (some ⟨blk, 0, none⟩) xs.length xs.length 1 (rdL (xs.map (SV.i .i64)) 1)] (fun r => ∃ x : Int, r = .i .i64 x ∧ Q x) :=
  pickC cb _ _ _ _ Q h0 h1 fun i hi => ⟨xs.getD i 0, by simp [rdL, List.getD, hi], hQ _ (getD_mem hi)⟩
theorem plain_pick {Q : Int → Prop} (r : SV) (h : ∃ x : Int, r = .i .i64 x ∧ Q x) : ∀ R w, r.ok R w := by
  obtain ⟨x, rfl, _⟩ := h; exact ok_plain rfl
theorem plain_bool (r : SV) (h : ∃ b : Bool, r = .b b) : ∀ R w, r.ok R w := by
  obtain ⟨x, rfl⟩ := h; exact ok_plain rfl
set_option maxRecDepth 100000 in
theorem boolC (cb : Nat) (n : Int) (h1 : 1 ≤ n) (h2 : n ≤ 1000000) : Contract (Frm.codes cb) Try.prog 22 [ptr cb, .i .i64 n] (fun r => ∃ b : Bool, r = .b b) := by
  refine contract_of Try.func22 rfl (by kernel_rfl) ?_
  simp only [Try.ntmps22, argEnv, ptr]
  (repeat refine Sat.seq ?_)
  (refine Sat.region_k fun k hk => ?_; simp -implicitDefEqProofs only [evr, id, seval, ptr]; refine hk _ ?_; clear hk k; try show Sat _ _ _ _ _)
  (repeat refine Sat.seq ?_)
  (refine Sat.region_k fun k hk => ?_; simp -implicitDefEqProofs only [evr, id, seval, ptr])
  refine wcall_plain (nextC cb n (by omega) (by omega)) rfl (by rintro _ ⟨x, rfl, _⟩; exact ok_plain rfl) ?_
  rintro r ⟨x, rfl, hx0, hx1⟩
  simp -implicitDefEqProofs only [evr, id, seval, ptr]
  (refine hk _ ?_; clear hk k; try show Sat _ _ _ _ _)
  refine Sat.ret ?_
  simp only [Try.results22, evr, id, seval, ptr]
  exact ⟨_, rfl⟩
set_option maxRecDepth 100000 in
theorem addressC (cb : Nat) : Contract (Frm.codes cb) Try.prog 45 [ptr cb] (fun r => ∃ x : Int, r = .i .u32 x) := by
  refine contract_of Try.func45 rfl (by kernel_rfl) ?_
  simp only [Try.ntmps45, argEnv, ptr]
  (repeat refine Sat.seq ?_)
  (refine Sat.region_k fun k hk => ?_; simp -implicitDefEqProofs only [evr, id, seval, ptr]; refine hk _ ?_; clear hk k; try show Sat _ _ _ _ _)
  (repeat refine Sat.seq ?_)
  (refine Sat.region_k fun k hk => ?_; simp -implicitDefEqProofs only [evr, id, seval, ptr])
  intro blk
  refine wcall_plain (pickI cb blk [1, 2, 5, 6, 9, 10, 12, 13] (fun _ => True) (by decide) (by decide) (by simp)) (by simp -implicitDefEqProofs only [evr, id, seval, ptr]) plain_pick ?_
  rintro r ⟨x, rfl, _⟩
  simp -implicitDefEqProofs only [evr, id, seval, ptr]
  (refine hk _ ?_; clear hk k; try show Sat _ _ _ _ _)
  refine Sat.ret ?_
  simp only [Try.results45, evr, id, seval, ptr]
  exact ⟨_, rfl⟩
end Go.Proofs.Ytepbdjpcoleegaa


/- Evidence that is drawn, by the evaluator: dice.Evidence; the reference's SameIDs. -/
namespace Go.Proofs.Ytepbdjpcoleegaa
open Go.Sort Eng
set_option maxHeartbeats 1000000 in
set_option maxRecDepth 100000 in
theorem diceEvC (cb : Nat) : Contract (Frm.codes cb) Try.prog 21 [ptr cb] (fun r => ∃ e : Evd, e.ids.length ≤ 3 ∧ r = evAg e) := by
  refine contract_of Try.func21 rfl (by kernel_rfl) ?_
  simp only [Try.ntmps21, argEnv, ptr]
  (repeat refine Sat.seq ?_)
  (refine Sat.region_k fun k hk => ?_; simp -implicitDefEqProofs only [evr, id, seval, ptr, res_one, par_one, idn_one, idn_0, idn_1, idn_2, resRow, res_ro, rExtract_tup, par_eq, ev_0, ev_1, ev_2, ev_3, idn_eqr, evn])
  intro b2
  (refine hk _ ?_; clear hk k; try show Sat _ _ _ _ _)
  (repeat refine Sat.seq ?_)
  (refine Sat.region_k fun k hk => ?_; simp -implicitDefEqProofs only [evr, id, seval, ptr, res_one, par_one, idn_one, idn_0, idn_1, idn_2, resRow, res_ro, rExtract_tup, par_eq, ev_0, ev_1, ev_2, ev_3, idn_eqr, evn])
  refine wcall_plain (nextC cb 3 (by omega) (by omega)) rfl (by rintro _ ⟨x, rfl, _⟩; exact ok_plain rfl) ?_
  rintro r ⟨x, rfl, hx0, hx1⟩
  simp -implicitDefEqProofs only [evr, id, seval, ptr, res_one, par_one, idn_one, idn_0, idn_1, idn_2, resRow, res_ro, rExtract_tup, par_eq, ev_0, ev_1, ev_2, ev_3, idn_eqr, evn]
  refine wcall_plain (addressC cb) rfl (by rintro _ ⟨x, rfl⟩; exact ok_plain rfl) ?_
  rintro r ⟨a0, rfl⟩
  simp -implicitDefEqProofs only [evr, id, seval, ptr, res_one, par_one, idn_one, idn_0, idn_1, idn_2, resRow, res_ro, rExtract_tup, par_eq, ev_0, ev_1, ev_2, ev_3, idn_eqr, evn]
  refine wcall_plain (addressC cb) rfl (by rintro _ ⟨x, rfl⟩; exact ok_plain rfl) ?_
  rintro r ⟨b0, rfl⟩
  simp -implicitDefEqProofs only [evr, id, seval, ptr, res_one, par_one, idn_one, idn_0, idn_1, idn_2, resRow, res_ro, rExtract_tup, par_eq, ev_0, ev_1, ev_2, ev_3, idn_eqr, evn]
  generalize IntKind.i64.wrap (1 + x) = kd
  intro b3
  (refine hk _ ?_; clear hk k; try show Sat _ _ _ _ _)
  refine Sat.adoptBox 1 3 56 3 (idnRd #[]) rfl rfl ?_
  simp -implicitDefEqProofs only [evr, id, seval, ptr, res_one, par_one, idn_one, idn_0, idn_1, idn_2, resRow, res_ro, rExtract_tup, par_eq, ev_0, ev_1, ev_2, ev_3, idn_eqr, evn]
  (repeat refine Sat.seq ?_)
  (refine Sat.region_k fun k hk => ?_; simp -implicitDefEqProofs only [evr, id, seval, ptr, res_one, par_one, idn_one, idn_0, idn_1, idn_2, resRow, res_ro, rExtract_tup, par_eq, ev_0, ev_1, ev_2, ev_3, idn_eqr, evn]; refine hk _ ?_; clear hk k; try show Sat _ _ _ _ _)
  (repeat refine Sat.seq ?_)
  refine Sat.atF (ι := Int) (fun z => ⟨56, [(3, .op 1 b3 0), (2, .op 0 b2 0), (0, .v (.pointer (some ⟨cb, 0, none⟩)))], [.box b2 37 [.i .i64 0, .i .u32 0, .i .u32 0, .sl none 0 0 0 fun _ _ => .v undef], .box b3 37 [.i .i64 kd, .i .u32 a0, .i .u32 z, .os 2 none 0 0], .row none 56 0 0 3 (idnRd #[])]⟩) (fun _ => True) ?_ ?_
  · refine Sat.cond_b rfl (fun h => ?_) (fun h => ?_)
    · (refine Sat.region_k fun k hk => ?_; simp -implicitDefEqProofs only [evr, id, seval, ptr, res_one, par_one, idn_one, idn_0, idn_1, idn_2, resRow, res_ro, rExtract_tup, par_eq, ev_0, ev_1, ev_2, ev_3, idn_eqr, evn])
      refine hk _ ?_
      simp only [thenK]
      refine ⟨IntKind.u32.wrap (b0 + 1), trivial, ?_⟩
      simp -implicitDefEqProofs only [evr, id, seval, ptr, res_one, par_one, idn_one, idn_0, idn_1, idn_2, resRow, res_ro, rExtract_tup, par_eq, ev_0, ev_1, ev_2, ev_3, idn_eqr, evl, evn]
    · refine Sat.skip ?_
      simp only [thenK]
      refine ⟨b0, trivial, ?_⟩
      simp -implicitDefEqProofs only [evr, id, seval, ptr, res_one, par_one, idn_one, idn_0, idn_1, idn_2, resRow, res_ro, rExtract_tup, par_eq, ev_0, ev_1, ev_2, ev_3, idn_eqr, evl, evn]
  rintro b1 -
  simp only [thenK]
  (repeat refine Sat.seq ?_)
  (refine Sat.region_k fun k hk => ?_; simp -implicitDefEqProofs only [evr, id, seval, ptr, res_one, par_one, idn_one, idn_0, idn_1, idn_2, resRow, res_ro, rExtract_tup, par_eq, ev_0, ev_1, ev_2, ev_3, idn_eqr, evn]; refine hk _ ?_; clear hk k; try show Sat _ _ _ _ _)
  generalize max a0 b1 = bb
  generalize min a0 b1 = aa
  (repeat refine Sat.seq ?_)
  (refine Sat.region_k fun k hk => ?_; simp -implicitDefEqProofs only [evr, id, seval, ptr, res_one, par_one, idn_one, idn_0, idn_1, idn_2, resRow, res_ro, rExtract_tup, par_eq, ev_0, ev_1, ev_2, ev_3, idn_eqr, evn])
  refine wcall_plain (nextC cb 5 (by omega) (by omega)) rfl (by rintro _ ⟨x, rfl, _⟩; exact ok_plain rfl) ?_
  rintro r ⟨t0, rfl, _, _⟩
  simp -implicitDefEqProofs only [evr, id, seval, ptr, res_one, par_one, idn_one, idn_0, idn_1, idn_2, resRow, res_ro, rExtract_tup, par_eq, ev_0, ev_1, ev_2, ev_3, idn_eqr, evn]
  (refine hk _ ?_; clear hk k; try show Sat _ _ _ _ _)
  (repeat refine Sat.seq ?_)
  (refine Sat.region_k fun k hk => ?_; simp -implicitDefEqProofs only [evr, id, seval, ptr, res_one, par_one, idn_one, idn_0, idn_1, idn_2, resRow, res_ro, rExtract_tup, par_eq, ev_0, ev_1, ev_2, ev_3, idn_eqr, evn])
  refine wcall_plain (nextC cb 3 (by omega) (by omega)) rfl (by rintro _ ⟨x, rfl, _⟩; exact ok_plain rfl) ?_
  rintro r ⟨v0, rfl, hv0, hv1⟩
  obtain ⟨v0, rfl⟩ := Int.eq_ofNat_of_zero_le hv0
  simp -implicitDefEqProofs only [evr, id, seval, ptr, res_one, par_one, idn_one, idn_0, idn_1, idn_2, resRow, res_ro, rExtract_tup, par_eq, ev_0, ev_1, ev_2, ev_3, idn_eqr, evn]
  (refine hk _ ?_; clear hk k; try show Sat _ _ _ _ _)
  (repeat refine Sat.seq ?_)
  refine Sat.block ?_
  refine Sat.loop (ι := Nat × Int × List Idn × Option Addr × Nat) (fun z => ⟨56, [(5, .i .i64 ((z.1 : Int) - 1)), (4, .i .i64 z.2.1), (3, .op 1 b3 0), (2, .op 0 b2 0), (0, .v (.pointer (some ⟨cb, 0, none⟩)))],
      [.box b2 37 [.i .i64 0, .i .u32 0, .i .u32 0, .sl none 0 0 0 fun _ _ => .v undef], .box b3 37 [.i .i64 kd, .i .u32 aa, .i .u32 bb, .os 2 z.2.2.2.1 z.2.2.1.length z.2.2.2.2], .row z.2.2.2.1 56 z.2.2.1.length z.2.2.2.2 3 (idnRd z.2.2.1.toArray)]⟩)
    (fun z => z.1 + z.2.2.1.length ≤ 3) (fun z => z.1) (v0 + 1, t0, [], none, 0) (by simp only [List.length_nil]; omega) (by
      simp -implicitDefEqProofs only [evr, id, seval, ptr, res_one, par_one, idn_one, idn_0, idn_1, idn_2, resRow, res_ro, rExtract_tup, par_eq, ev_0, ev_1, ev_2, ev_3, idn_eqr, evl, evn]
      try exact ⟨by omega, rfl⟩
      try (constructor <;> omega)
      try omega) ?_
  rintro ⟨v, t, l, ra, rc⟩ hv
  simp only at hv ⊢
  (repeat refine Sat.seq ?_)
  (refine Sat.region_k fun k hk => ?_; simp -implicitDefEqProofs only [evr, id, seval, ptr, res_one, par_one, idn_one, idn_0, idn_1, idn_2, resRow, res_ro, rExtract_tup, par_eq, ev_0, ev_1, ev_2, ev_3, idn_eqr, evn]; refine hk _ ?_; clear hk k; try show Sat _ _ _ _ _)
  (repeat refine Sat.seq ?_)
  refine Sat.cond_b rfl (fun h => ?_) (fun h => ?_)
  · have hv2 : 1 ≤ v := by simp only [decide_eq_true_eq] at h; omega
    have e1 : IntKind.i64.wrap ((v : Int) - 1 - 1) = ((v - 1 : Nat) : Int) - 1 := by rw [w64 (by omega)]; omega
    refine Sat.skip ?_
    simp only [thenK]
    (repeat refine Sat.seq ?_)
    refine Sat.block ?_
    (repeat refine Sat.seq ?_)
    (refine Sat.region_k fun k hk => ?_; simp -implicitDefEqProofs only [evr, id, seval, ptr, res_one, par_one, idn_one, idn_0, idn_1, idn_2, resRow, res_ro, rExtract_tup, par_eq, ev_0, ev_1, ev_2, ev_3, idn_eqr, evn])
    refine wcall_plain (nextC cb 3 (by omega) (by omega)) rfl (by rintro _ ⟨x, rfl, _⟩; exact ok_plain rfl) ?_
    rintro r ⟨x3, rfl, _, _⟩
    simp -implicitDefEqProofs only [evr, id, seval, ptr, res_one, par_one, idn_one, idn_0, idn_1, idn_2, resRow, res_ro, rExtract_tup, par_eq, ev_0, ev_1, ev_2, ev_3, idn_eqr, evn]
    generalize IntKind.i64.wrap (t + IntKind.i64.wrap (1 + x3)) = t2
    (refine hk _ ?_; clear hk k; try show Sat _ _ _ _ _)
    (refine Sat.region_k fun k hk => ?_; simp -implicitDefEqProofs only [evr, id, seval, ptr, res_one, par_one, idn_one, idn_0, idn_1, idn_2, resRow, res_ro, rExtract_tup, par_eq, ev_0, ev_1, ev_2, ev_3, idn_eqr, evn])
    intro bs
    refine ⟨⟨by unfold maxLen; omega, by omega⟩, fun a2 c2 => hk _ ?_⟩
    simp only [thenK, blockK]
    refine Sat.region_k fun k hk => ?_
    simp -implicitDefEqProofs only [evr, id, seval, ptr, res_one, par_one, idn_one, idn_0, idn_1, idn_2, resRow, res_ro, rExtract_tup, par_eq, ev_0, ev_1, ev_2, ev_3, idn_eqr, e1, evn]
    refine hk _ ?_
    simp only [thenK, blockK]
    refine ⟨(v - 1, t2, l ++ [⟨0, 0, t2⟩], a2, c2), by simp only [List.length_append, List.length_singleton]; omega, by simp only; omega, ?_⟩
    simp only [List.length_append, List.length_singleton]
    simp -implicitDefEqProofs only [evr, id, seval, ptr, res_one, par_one, idn_one, idn_0, idn_1, idn_2, resRow, res_ro, rExtract_tup, par_eq, ev_0, ev_1, ev_2, ev_3, idn_eqr, evl, evn]
    exact idn_app rfl
  · refine Sat.exit ?_
    simp only [thenK, blockK, reduceIte]
    refine Sat.settleLeafF 1 3 rfl rfl rfl ?_
    simp -implicitDefEqProofs only [evr, id, seval, ptr, res_one, par_one, idn_one, idn_0, idn_1, idn_2, resRow, res_ro, rExtract_tup, par_eq, ev_0, ev_1, ev_2, ev_3, idn_eqr, evn]
    (repeat refine Sat.seq ?_)
    (refine Sat.region_k fun k hk => ?_; simp -implicitDefEqProofs only [evr, id, seval, ptr, res_one, par_one, idn_one, idn_0, idn_1, idn_2, resRow, res_ro, rExtract_tup, par_eq, ev_0, ev_1, ev_2, ev_3, idn_eqr, evn]; refine hk _ ?_; clear hk k; try show Sat _ _ _ _ _)
    refine Sat.ret ?_
    simp only [Try.results21, evr, id, seval, ptr, res_one, par_one, idn_one, idn_0, idn_1, idn_2, List.append_nil, Int.toNat_zero, Nat.sub_self, Int.reduceToNat, resRow, res_ro, rExtract_tup, par_eq, ev_0, ev_1, ev_2, ev_3, idn_eqr]
    exact ⟨⟨kd, aa, bb, l, ra, rc⟩, by show l.length ≤ 3; omega, rfl⟩
set_option maxRecDepth 100000 in
theorem sameIdsC (F : Frm) (a b : Option Addr) (cap cap2 : Nat) (xs ys : List Idn) (hx : xs.length ≤ 1000000000) (hy : ys.length ≤ 1000000000) :
    Contract F Try.prog 23 [.sl a xs.length cap 3 (idnRd xs.toArray), .sl b ys.length cap2 3 (idnRd ys.toArray)] (fun r => r = .b (decide (xs = ys))) := by
  refine contract_of Try.func23 rfl (by kernel_rfl) ?_
  simp only [Try.ntmps23, argEnv]
  (repeat refine Sat.seq ?_)
  (refine Sat.region_k fun k hk => ?_; simp -implicitDefEqProofs only [evr, id, seval, ptr, res_one, par_one, idn_one, idn_0, idn_1, idn_2, resRow, res_ro, rExtract_tup, par_eq, ev_0, ev_1, ev_2, ev_3, idn_eqr, evn]; refine hk _ ?_; clear hk k; try show Sat _ _ _ _ _)
  (repeat refine Sat.seq ?_)
  (refine Sat.region_k fun k hk => ?_; simp -implicitDefEqProofs only [evr, id, seval, ptr, res_one, par_one, idn_one, idn_0, idn_1, idn_2, resRow, res_ro, rExtract_tup, par_eq, ev_0, ev_1, ev_2, ev_3, idn_eqr, evn]; refine hk _ ?_; clear hk k; try show Sat _ _ _ _ _)
  (repeat refine Sat.seq ?_)
  refine Sat.cond_b rfl (fun h => ?_) (fun h => ?_)
  · have hne : xs.length ≠ ys.length := by simp only [bne_iff_ne, ne_eq] at h; omega
    (repeat refine Sat.seq ?_)
    (refine Sat.region_k fun k hk => ?_; simp -implicitDefEqProofs only [evr, id, seval, ptr, res_one, par_one, idn_one, idn_0, idn_1, idn_2, resRow, res_ro, rExtract_tup, par_eq, ev_0, ev_1, ev_2, ev_3, idn_eqr, evn]; refine hk _ ?_; clear hk k; try show Sat _ _ _ _ _)
    refine Sat.ret ?_
    simp only [Try.results23, evr, id, seval, ptr, res_one, par_one, idn_one, idn_0, idn_1, idn_2, List.append_nil, Int.toNat_zero, Nat.sub_self, Int.reduceToNat, resRow, res_ro, rExtract_tup, par_eq, ev_0, ev_1, ev_2, ev_3, idn_eqr]
    rw [decide_eq_false (fun e => hne (by rw [e]))]
  have hlen : xs.length = ys.length := by simp only [bne_eq_false_iff_eq] at h; omega
  refine Sat.skip ?_
  simp only [thenK]
  (repeat refine Sat.seq ?_)
  (refine Sat.region_k fun k hk => ?_; simp -implicitDefEqProofs only [evr, id, seval, ptr, res_one, par_one, idn_one, idn_0, idn_1, idn_2, resRow, res_ro, rExtract_tup, par_eq, ev_0, ev_1, ev_2, ev_3, idn_eqr, evn]; refine hk _ ?_; clear hk k; try show Sat _ _ _ _ _)
  (repeat refine Sat.seq ?_)
  refine Sat.block ?_
  refine Sat.loop (ι := Nat) (fun i => ⟨26, [(5, .i .i64 i), (4, .ff), (0, .sl a xs.length cap 3 (idnRd xs.toArray)), (1, .sl b ys.length cap2 3 (idnRd ys.toArray))], []⟩)
    (fun i => i ≤ xs.length ∧ ∀ q, q < i → xs.getD q default = ys.getD q default) (fun i => xs.length - i) 0 ⟨Nat.zero_le _, fun q hq => absurd hq (Nat.not_lt_zero _)⟩ (by simp -implicitDefEqProofs only [evr, id, seval, ptr, res_one, par_one, idn_one, idn_0, idn_1, idn_2, resRow, res_ro, rExtract_tup, par_eq, ev_0, ev_1, ev_2, ev_3, idn_eqr, evl, evn]; try rfl) ?_
  rintro i ⟨hi, hq⟩
  (repeat refine Sat.seq ?_)
  (refine Sat.region_k fun k hk => ?_; simp -implicitDefEqProofs only [evr, id, seval, ptr, res_one, par_one, idn_one, idn_0, idn_1, idn_2, resRow, res_ro, rExtract_tup, par_eq, ev_0, ev_1, ev_2, ev_3, idn_eqr, evn]; refine hk _ ?_; clear hk k; try show Sat _ _ _ _ _)
  (repeat refine Sat.seq ?_)
  refine Sat.cond_b rfl (fun h2 => ?_) (fun h2 => ?_)
  · have hlt : i < xs.length := by simp only [decide_eq_true_eq] at h2; omega
    have e1 : IntKind.i64.wrap ((i : Int) + 1) = ((i + 1 : Nat) : Int) := by rw [w64 (by omega)]; omega
    have g1 : xs.toArray[i]! = xs.getD i default := by simp [getElem!_def, List.getD, hlt]
    have g2 : ys.toArray[i]! = ys.getD i default := by simp [getElem!_def, List.getD, show i < ys.length by omega]
    refine Sat.skip ?_
    simp only [thenK]
    (repeat refine Sat.seq ?_)
    refine Sat.block ?_
    (repeat refine Sat.seq ?_)
    (refine Sat.region_rows [⟨0, 18, 1, 0⟩, ⟨0, 19, 32, 0⟩, ⟨3, 20, 393216, 0⟩, ⟨4, 21, 524288, 1⟩, ⟨0, 22, 2, 0⟩, ⟨0, 23, 32, 0⟩, ⟨48, 24, 6291456, 0⟩, ⟨64, 25, 8388608, 1⟩, ⟨136, 26, 17825792, 0⟩] [0, 1, 2, 4, 5, 6, 3, 7, 8] [] [] (by kernel_rfl) (by kernel_rfl) (fun _ _ h => h) fun k hk => ?_; simp only [List.map_cons, List.map_nil, List.getD_cons_zero, List.getD_cons_succ, btseq_cons, btseq_free, btseq_nil]; simp -implicitDefEqProofs only [evr, id, seval, ptr, res_one, par_one, idn_one, idn_0, idn_1, idn_2, resRow, res_ro, rExtract_tup, par_eq, ev_0, ev_1, ev_2, ev_3, idn_eqr, evn])
    refine ⟨by omega, by omega, ?_⟩
    rw [g1, g2]
    (refine hk _ ?_; clear hk k; try show Sat _ _ _ _ _)
    (repeat refine Sat.seq ?_)
    refine Sat.cond_b rfl (fun h3 => ?_) (fun h3 => ?_)
    · have hne : xs.getD i default ≠ ys.getD i default := by
        simpa using h3
      (repeat refine Sat.seq ?_)
      (refine Sat.region_k fun k hk => ?_; simp -implicitDefEqProofs only [evr, id, seval, ptr, res_one, par_one, idn_one, idn_0, idn_1, idn_2, resRow, res_ro, rExtract_tup, par_eq, ev_0, ev_1, ev_2, ev_3, idn_eqr, evn]; refine hk _ ?_; clear hk k; try show Sat _ _ _ _ _)
      refine Sat.ret ?_
      simp only [blockK, Try.results23, evr, id, seval, ptr, res_one, par_one, idn_one, idn_0, idn_1, idn_2, List.append_nil, Int.toNat_zero, Nat.sub_self, Int.reduceToNat, resRow, res_ro, rExtract_tup, par_eq, ev_0, ev_1, ev_2, ev_3, idn_eqr]
      rw [decide_eq_false (fun e => hne (by rw [e]))]
    have heq : xs.getD i default = ys.getD i default := by simpa using h3
    refine Sat.skip ?_
    simp only [thenK, blockK]
    refine Sat.region_k fun k hk => ?_
    simp -implicitDefEqProofs only [evr, id, seval, ptr, res_one, par_one, idn_one, idn_0, idn_1, idn_2, resRow, res_ro, rExtract_tup, par_eq, ev_0, ev_1, ev_2, ev_3, idn_eqr, e1, evn]
    refine hk _ ?_
    simp only [thenK, blockK]
    refine ⟨i + 1, ⟨by omega, fun q hq2 => ?_⟩, by omega, ?_⟩
    · by_cases e : q = i
      · subst e; exact heq
      · exact hq q (by omega)
    · simp -implicitDefEqProofs only [evr, id, seval, ptr, res_one, par_one, idn_one, idn_0, idn_1, idn_2, resRow, res_ro, rExtract_tup, par_eq, ev_0, ev_1, ev_2, ev_3, idn_eqr, evl, evn]
  · have hie : i = xs.length := by simp only [decide_eq_false_iff_not] at h2; omega
    refine Sat.exit ?_
    simp only [thenK, blockK, reduceIte]
    (repeat refine Sat.seq ?_)
    (refine Sat.region_k fun k hk => ?_; simp -implicitDefEqProofs only [evr, id, seval, ptr, res_one, par_one, idn_one, idn_0, idn_1, idn_2, resRow, res_ro, rExtract_tup, par_eq, ev_0, ev_1, ev_2, ev_3, idn_eqr, evn]; refine hk _ ?_; clear hk k; try show Sat _ _ _ _ _)
    refine Sat.ret ?_
    simp only [Try.results23, evr, id, seval, ptr, res_one, par_one, idn_one, idn_0, idn_1, idn_2, List.append_nil, Int.toNat_zero, Nat.sub_self, Int.reduceToNat, resRow, res_ro, rExtract_tup, par_eq, ev_0, ev_1, ev_2, ev_3, idn_eqr]
    rw [decide_eq_true]
    apply List.ext_getElem hlen
    intro q h8 h9
    have := hq q (by omega)
    rwa [List.getD_eq_getElem?_getD, List.getElem?_eq_getElem h8, List.getD_eq_getElem?_getD, List.getElem?_eq_getElem h9] at this
end Go.Proofs.Ytepbdjpcoleegaa


/- The order of evidence (no program in sight). -/
namespace Go.Proofs.Ytepbdjpcoleegaa
open Eng
theorem idnCmp_neg (a b : Idn) : idnCmpI b a = - idnCmpI a b := cmpL_neg _ _
theorem cmpIds_neg : ∀ (l m : List Idn), cmpIds m l = - cmpIds l m
  | [], [] => rfl
  | [], _ :: _ => rfl
  | _ :: _, [] => rfl
  | x :: l, y :: m => by
    unfold cmpIds
    rw [idnCmp_neg x y, cmpIds_neg l m]
    by_cases h : idnCmpI x y = 0
    · rw [if_neg (by simp [h]), if_neg (by simp [h])]
    · rw [if_pos (by omega), if_pos h]
theorem cmpIds_zero : ∀ {l m : List Idn}, cmpIds l m = 0 ↔ l = m
  | [], [] => by simp [cmpIds]
  | [], _ :: _ => by simp [cmpIds]
  | _ :: _, [] => by simp [cmpIds]
  | x :: l, y :: m => by
    unfold cmpIds
    by_cases h : idnCmpI x y = 0
    · rw [if_neg (by simp [h]), cmpIds_zero]
      have := idnCmpI_zero.1 h
      subst this
      simp
    · rw [if_pos h]
      constructor
      · intro h2; exact absurd h2 h
      · intro h2
        simp only [List.cons.injEq] at h2
        exact absurd (idnCmpI_zero.2 h2.1) h
theorem idnCmp_vals (a b : Idn) : idnCmpI a b = -1 ∨ idnCmpI a b = 0 ∨ idnCmpI a b = 1 := cmpL_vals _ _
theorem cmpIds_trans : ∀ {l m n : List Idn}, cmpIds l m ≤ 0 → cmpIds m n ≤ 0 → cmpIds l n ≤ 0
  | [], _, [], _, _ => by simp [cmpIds]
  | [], _, _ :: _, _, _ => by simp [cmpIds]
  | _ :: _, [], _, h, _ => by simp [cmpIds] at h
  | _ :: _, _ :: _, [], _, h => by simp [cmpIds] at h
  | x :: l, y :: m, z :: n, h1, h2 => by
    unfold cmpIds at h1 h2 ⊢
    by_cases a : idnCmpI x y = 0
    · have e := idnCmpI_zero.1 a
      subst e
      rw [if_neg (by simp [a])] at h1
      by_cases b : idnCmpI x z = 0
      · rw [if_neg (by simp [b])] at h2
        rw [if_neg (by simp [b])]
        exact cmpIds_trans h1 h2
      · rw [if_pos b] at h2
        rw [if_pos b]
        exact h2
    · rw [if_pos a] at h1
      have a1 : idnCmpI x y < 0 := by omega
      by_cases b : idnCmpI y z = 0
      · have e := idnCmpI_zero.1 b
        subst e
        rw [if_pos a]
        exact h1
      · rw [if_pos b] at h2
        have b1 : idnCmpI y z < 0 := by omega
        have c := cmpL_trans x.keys y.keys z.keys rfl rfl a1 b1
        have c' : idnCmpI x z < 0 := c
        rw [if_pos (by omega)]
        omega
def lex3 (p q r w : Int) : Int := if p ≠ 0 then p else if q ≠ 0 then q else if r ≠ 0 then r else w
theorem evCmp_lex (e f : Evd) : evCmp e f = lex3 (ordI e.kind f.kind) (ordI e.a f.a) (ordI e.b f.b) (cmpIds e.ids f.ids) := by
  unfold evCmp lex3 orL orL orL orL orL
  by_cases h : cmpIds e.ids f.ids = 0
  · simp [h]
  · simp [h]
theorem evCmp_neg (e f : Evd) : evCmp f e = - evCmp e f := by
  rw [evCmp_lex, evCmp_lex, ordI_neg e.kind, ordI_neg e.a, ordI_neg e.b, cmpIds_neg e.ids]
  unfold lex3
  by_cases h1 : ordI e.kind f.kind = 0
  · by_cases h2 : ordI e.a f.a = 0
    · by_cases h3 : ordI e.b f.b = 0
      · simp [h1, h2, h3]
      · simp [h1, h2, h3]
    · simp [h1, h2]
  · simp [h1]
theorem evCmp_zero (e f : Evd) : evCmp e f = 0 ↔ e.kind = f.kind ∧ e.a = f.a ∧ e.b = f.b ∧ e.ids = f.ids := by
  rw [evCmp_lex]
  unfold lex3
  by_cases h1 : ordI e.kind f.kind = 0
  · rw [if_neg (by simp [h1])]
    by_cases h2 : ordI e.a f.a = 0
    · rw [if_neg (by simp [h2])]
      by_cases h3 : ordI e.b f.b = 0
      · rw [if_neg (by simp [h3]), cmpIds_zero]
        rw [ordI_zero] at h1 h2 h3
        simp [h1, h2, h3]
      · rw [if_pos h3]
        exact ⟨fun h => absurd h h3, fun h => absurd (ordI_zero.2 h.2.2.1) h3⟩
    · rw [if_pos h2]
      exact ⟨fun h => absurd h h2, fun h => absurd (ordI_zero.2 h.2.1) h2⟩
  · rw [if_pos h1]
    exact ⟨fun h => absurd h h1, fun h => absurd (ordI_zero.2 h.1) h1⟩
theorem ordI_cases (a b : Int) : (a < b ∧ ordI a b = -1) ∨ (a = b ∧ ordI a b = 0) ∨ (b < a ∧ ordI a b = 1) := by
  unfold ordI
  split
  · exact .inl ⟨by assumption, rfl⟩
  · split
    · exact .inr (.inr ⟨by assumption, rfl⟩)
    · exact .inr (.inl ⟨by omega, rfl⟩)
theorem evCmp_trans (e f g : Evd) (h1 : evCmp e f ≤ 0) (h2 : evCmp f g ≤ 0) : evCmp e g ≤ 0 := by
  rw [evCmp_lex] at h1 h2 ⊢
  have ht := @cmpIds_trans e.ids f.ids g.ids
  unfold lex3 at *
  rcases ordI_cases e.kind f.kind with ⟨a1, a2⟩ | ⟨a1, a2⟩ | ⟨a1, a2⟩ <;> rcases ordI_cases f.kind g.kind with ⟨b1, b2⟩ | ⟨b1, b2⟩ | ⟨b1, b2⟩ <;> rcases ordI_cases e.kind g.kind with ⟨c1, c2⟩ | ⟨c1, c2⟩ | ⟨c1, c2⟩ <;> first | omega | skip
  all_goals simp only [a2, b2, c2, ne_eq, not_true_eq_false, if_false, reduceIte, Int.reduceNeg, Int.reduceEq, not_false_eq_true, if_true] at h1 h2 ⊢
  all_goals first | omega | skip
  all_goals
    rcases ordI_cases e.a f.a with ⟨d1, d2⟩ | ⟨d1, d2⟩ | ⟨d1, d2⟩ <;> rcases ordI_cases f.a g.a with ⟨x1, x2⟩ | ⟨x1, x2⟩ | ⟨x1, x2⟩ <;> rcases ordI_cases e.a g.a with ⟨y1, y2⟩ | ⟨y1, y2⟩ | ⟨y1, y2⟩ <;> first | omega | skip
  all_goals simp only [d2, x2, y2, ne_eq, not_true_eq_false, if_false, reduceIte, Int.reduceNeg, Int.reduceEq, not_false_eq_true, if_true] at h1 h2 ⊢
  all_goals first | omega | skip
  all_goals
    rcases ordI_cases e.b f.b with ⟨m1, m2⟩ | ⟨m1, m2⟩ | ⟨m1, m2⟩ <;> rcases ordI_cases f.b g.b with ⟨n1, n2⟩ | ⟨n1, n2⟩ | ⟨n1, n2⟩ <;> rcases ordI_cases e.b g.b with ⟨o1, o2⟩ | ⟨o1, o2⟩ | ⟨o1, o2⟩ <;> first | omega | skip
  all_goals simp only [m2, n2, o2, ne_eq, not_true_eq_false, if_false, reduceIte, Int.reduceNeg, Int.reduceEq, not_false_eq_true, if_true] at h1 h2 ⊢
  all_goals first | omega | exact ht h1 h2
theorem idn_trans (a b c : Idn) (h1 : idnCmpI a b ≤ 0) (h2 : idnCmpI b c ≤ 0) : idnCmpI a c ≤ 0 := by
  by_cases x : idnCmpI a b = 0
  · rw [idnCmpI_zero.1 x]; exact h2
  · by_cases y : idnCmpI b c = 0
    · rw [← idnCmpI_zero.1 y]; exact h1
    · have c : idnCmpI a c < 0 := cmpL_trans a.keys b.keys c.keys rfl rfl (by show idnCmpI a b < 0; omega) (by show idnCmpI b c < 0; omega)
      omega
end Go.Proofs.Ytepbdjpcoleegaa
