import Derived.Test.YtfeiiadligkamaaGreatPk4
import Derived.Test.YtfeiiadligkamaaGreatPk3
import Derived.Test.YtfeiiadligkamaaGreatR24H
import Derived.Test.YtfeiiadligkamaaGreatEpiC
import Derived.Test.YtfeiiadligkamaaGreatEv
import Derived.Test.YtfeiiadligkamaaGreatDraw
import Derived.Test.YtfeiiadligkamaaGreatPk2
import Derived.Test.YtfeiiadligkamaaGreatEpiM
import Derived.Test.YtfeiiadligkamaaGreatPoE

/- The link rule, by the evaluator: exclusion.Mates. -/
set_option linter.unusedSimpArgs false
set_option linter.unusedVariables false
namespace Go.Proofs.YtfeiiadligkamaaGreat
open Go.Sort Eng
namespace Eng
variable {P : Program} {F : Frm} {N : Nat} {env : List (Nat × SV)} {own : List Own} {k : St → Prop} {dst : Option Tmp}
variable {blk : Nat} {sc : Bool} {ks : List IntKind} {n : Nat} {key : Nat → List Int} {val : Nat → SV}
theorem lookMqU {t e : TypeId} {m x : Operand} {s : SV} {l : List Int} (ht : mqT P t = some (sc, ks, e)) (hm : MqIn env own m blk sc ks n key val) (hx : ev env x = some s) (hs : keyS sc s = some (ks, l))
    (zs : SV) (hz : (P.info? e).bind (·.zero) = some zs.den) (hzo : ∀ R w, zs.ok R w) (hd : dstOk ⟨N, env, own⟩ dst) (v : SV)
    (h1 : ∀ i, i < n → key i = l → val i = v) (h2 : (∀ i, i < n → key i ≠ l) → zs = v) (h : k (St.put ⟨N, env, own⟩ dst v)) : Good P F (.lookup t m x false) dst ⟨N, env, own⟩ k :=
  lookMq ht hm hx hs zs hz hzo hd (fun i hi he => by rw [if_neg (by decide), h1 i hi he]; exact h) (fun hno => by rw [if_neg (by decide), h2 hno]; exact h)
end Eng
def Sg.row (g : Sg) : Eng.Own := idnRow g.a g.ids.length g.cap g.ids.toArray
def sVal (X : List Sg) (i : Nat) : SV := .os 0 (X.getD i default).a (X.getD i default).ids.length (X.getD i default).cap
def sValS (X : List Sg) (i : Nat) : SV := .sl (X.getD i default).a (X.getD i default).ids.length (X.getD i default).cap 3 (idnRd (X.getD i default).ids.toArray)
def mW (V : Int → List Idn) (a b : Res) (e : Evd) : Prop := folR a b = true ∧ ∃ m ∈ msV b.from_, m ≠ a.from_ ∧ ∃ d ∈ V m, MatE a.idn b.idn d a.from_ m e
def plOwn (m r : Eng.Own) (Y : List Sg) : Option Nat → List Eng.Own
  | none => .gone :: m :: r :: Y.map Sg.row
  | some i => (Y.getD i default).row :: m :: r :: (Y.map Sg.row).set i .gone
theorem Sat_unpl {F : Frm} {n : Nat} {env : List (Nat × SV)} {c : Code} {K : Exit → St → Prop} {m r : Eng.Own} {Y : List Sg} {pl : Option Nat} (hpl : ∀ i, pl = some i → i < Y.length) (h : Sat Tryz.prog F c ⟨n, env, .gone :: m :: r :: Y.map Sg.row⟩ K) : Sat Tryz.prog F c ⟨n, env, plOwn m r Y pl⟩ K := by
  cases pl with
  | none => exact h
  | some i =>
    have hi := hpl i rfl
    refine Sat.push (T := r :: (Y.map Sg.row).set i .gone) (i + 1) (by rw [List.getElem?_cons_succ, List.getElem?_set_self (by rw [List.length_map]; exact hi)]) ?_
    simp only [List.set_cons_succ, List.set_set]
    have e : (Y.map Sg.row).set i (Y.getD i default).row = Y.map Sg.row := by
      apply List.ext_getElem?
      intro q
      rw [List.getElem?_set]
      split
      · rename_i e; subst e
        rw [List.length_map, if_pos hi, List.getElem?_map, List.getElem?_eq_getElem hi, List.getD_eq_getElem?_getD, List.getElem?_eq_getElem hi]
        rfl
      · rfl
    rw [e]
    exact h
theorem ev_one (es : List Evd) (i j : Nat) (h : j < 4) : oneS (evRd es i j) = true := by
  rcases (show j = 0 ∨ j = 1 ∨ j = 2 ∨ j = 3 by omega) with rfl | rfl | rfl | rfl <;> rfl
theorem evs_rd (d : Array Evs) : evsRd d = evRd (d.toList.map Evs.e) := by
  funext i j
  unfold evsRd evRd Evs.cs
  have : (d.toList.map Evs.e).getD i default = (d[i]!).e := by
    rw [List.getD_eq_getElem?_getD, List.getElem?_map]
    by_cases h : i < d.size
    · rw [List.getElem?_eq_getElem (by simpa using h)]
      simp [getElem!_def, h]
    · rw [List.getElem?_eq_none (by simpa using h)]
      simp [getElem!_def, h]
      rfl
  rw [this]
theorem evs_of : ∀ {L : List Evd}, (∀ e ∈ L, e.ids.length ≤ 1000) → ∃ M : List Evs, M.map Evs.e = L
  | [], _ => ⟨[], rfl⟩
  | e :: L, h => by
    obtain ⟨M, hM⟩ := evs_of (L := L) fun x hx => h x (List.mem_cons_of_mem _ hx)
    exact ⟨⟨e, h e List.mem_cons_self⟩ :: M, by rw [List.map_cons, hM]⟩
theorem evd_app {ys : List Evd} {x : Evd} {cs : List SV} (h : cs = Evd.cs x) : rdEq (ys.length + 1) 4 (rdCat ys.length (evRd ys) (rdL cs 4)) (evRd (ys ++ [x])) := by
  subst h
  refine rdEq_snoc (fun i j hi hj => ?_) (fun j hj => ?_)
  · unfold evRd
    have e9 : (ys ++ [x]).getD i default = ys.getD i default := by rw [List.getD_eq_getElem?_getD, List.getElem?_append_left hi, List.getD_eq_getElem?_getD]
    rw [e9]
  · unfold evRd
    have : (ys ++ [x]).getD ys.length default = x := by rw [List.getD_eq_getElem?_getD, List.getElem?_concat_length]; rfl
    rw [this]
theorem kind_lt {e f : Evd} (hk : e.kind = f.kind) (h : parLt e.pr f.pr = true) : evCmp e f < 0 := by
  have h1 : ordI e.a f.a = -1 ∨ (ordI e.a f.a = 0 ∧ ordI e.b f.b = -1) := by
    unfold parLt parCmpI cmpL Par.keys Evd.pr at h
    have h2 : orL [ordI e.a f.a, ordI e.b f.b] < 0 := of_decide_eq_true h
    unfold orL orL orL at h2
    rcases ordI_cases e.a f.a with ⟨_, h3⟩ | ⟨_, h3⟩ | ⟨_, h3⟩ <;> rcases ordI_cases e.b f.b with ⟨_, h4⟩ | ⟨_, h4⟩ | ⟨_, h4⟩ <;> simp [h3, h4] at h2 ⊢
  have h0 : ordI e.kind f.kind = 0 := by
    rw [hk]
    rcases ordI_cases f.kind f.kind with ⟨h3, _⟩ | ⟨_, h3⟩ | ⟨h3, _⟩
    · omega
    · exact h3
    · omega
  unfold evCmp
  rcases h1 with h1 | ⟨h1, h2⟩
  · simp [orL, h0, h1]
  · simp [orL, h0, h1, h2]
theorem evs_sorted {M : List Evs} {d' : Array Evs} (hd : d'.size = M.length) (hp : PermIn 0 M.length M.toArray d') (hs : SortedIn evsLt 0 M.length d') : d'.toList.Perm M ∧ d'.toList.Pairwise fun a b => evsLt b a = false := by
  have h := hp.2.2
  have e1 : (d'.extract 0 M.length) = d' := by rw [← hd]; simp
  have e2 : (M.toArray.extract 0 M.length) = M.toArray := by simp
  rw [e1, e2] at h
  refine ⟨by simpa using h, ?_⟩
  rw [List.pairwise_iff_getElem]
  intro i j hi hj hij
  have hi' : i < d'.size := by simpa using hi
  have hj' : j < d'.size := by simpa using hj
  have := hs i j (Nat.zero_le _) hij (by omega)
  simpa [getElem!_def, hi', hj'] using this
theorem mat_sorted {xs : List Res} {Z : List Evd} (hB : BestI Evd.pr evB (MatC xs) Z) (hZ : ∀ e ∈ Z, e.ids.length ≤ 3) {L : List Evs} (hp : (L.map Evs.e).Perm Z) (hs : L.Pairwise fun a b => evsLt b a = false) : MatOf xs (L.map Evs.e) := by
  have hkind : ∀ e ∈ Z, e.kind = 2 := fun e he => by
    obtain ⟨_, _, _, _, _, _, _, _, _, _, _, _, h⟩ := (hB.each e he).1
    exact h.1
  refine ⟨hB.sorted hp ?_, fun e he => hZ e (hp.mem_iff.1 he)⟩
  rw [List.pairwise_map]
  refine List.Pairwise.imp_of_mem (fun {x y} hx hy h => ?_) hs
  have k1 := hkind _ (hp.mem_iff.1 (List.mem_map.2 ⟨x, hx, rfl⟩))
  have k2 := hkind _ (hp.mem_iff.1 (List.mem_map.2 ⟨y, hy, rfl⟩))
  cases hc : parLt (Evd.pr y.e) (Evd.pr x.e) with
  | false => rfl
  | true =>
    have h1 : evsLt y x = true := decide_eq_true (kind_lt (k2.trans k1.symm) hc)
    rw [h1] at h; cases h
set_option maxHeartbeats 4000000 in
set_option maxRecDepth 100000 in
theorem exMatesC (F : Frm) (ad : Option Addr) (cap : Nat) (xs : List Res) (hl : xs.length ≤ 512) (hin : ∀ r ∈ xs, RgR r) :
    Contract F Tryz.prog 14 [.sl ad xs.length cap 17 (resRd xs.toArray)] (fun r => (xs.any (fun x => !validR x) = true ∧ ∃ rd, r = tupL [.sl none 0 0 0 rd, .i .i64 1]) ∨
      (xs.any (fun x => !validR x) = false ∧ ∃ a cap es, MatOf xs es ∧ es.length ≤ 262144 ∧ r = tupL [.sl a es.length cap 4 (evRd es), .i .i64 0])) := by
  refine contract_of Tryz.func14 rfl (by kernel_rfl) ?_
  simp only [Tryz.ntmps14, argEnv]
  (repeat refine Sat.seq ?_)
  (refine Sat.region_k fun k hk => ?_; simp -implicitDefEqProofs only [evr, id, seval, ev_one, res_one, fg_one, idn_one, idn_0, idn_1, idn_2, par_one, u32_one, resRow, res_ro, rExtract_tup, tl_get, tl_set, evn]; refine hk _ ?_; clear hk k; try show Sat _ _ _ _ _)
  (repeat refine Sat.seq ?_)
  (refine Sat.region_k fun k hk => ?_; simp -implicitDefEqProofs only [evr, id, seval, ev_one, res_one, fg_one, idn_one, idn_0, idn_1, idn_2, par_one, u32_one, resRow, res_ro, rExtract_tup, tl_get, tl_set, evn])
  refine wcall_plain (exCheckC F ad cap xs hl hin) rfl (by rintro _ rfl; exact ok_plain rfl) ?_
  rintro _ rfl
  simp -implicitDefEqProofs only [evr, id, seval, ev_one, res_one, fg_one, idn_one, idn_0, idn_1, idn_2, par_one, u32_one, resRow, res_ro, rExtract_tup, tl_get, tl_set, evn]
  (refine hk _ ?_; clear hk k; try show Sat _ _ _ _ _)
  (repeat refine Sat.seq ?_)
  (refine Sat.region_k fun k hk => ?_; simp -implicitDefEqProofs only [evr, id, seval, ev_one, res_one, fg_one, idn_one, idn_0, idn_1, idn_2, par_one, u32_one, resRow, res_ro, rExtract_tup, tl_get, tl_set, evn]; refine hk _ ?_; clear hk k; try show Sat _ _ _ _ _)
  (repeat refine Sat.seq ?_)
  refine Sat.cond_b rfl (fun h => ?_) (fun h => ?_)
  · have hb : xs.any (fun x => !validR x) = true := by
      cases hx : xs.any (fun x => !validR x) with
      | true => rfl
      | false => rw [hx] at h; cases h
    rw [hb]
    (repeat refine Sat.seq ?_)
    (refine Sat.region_k fun k hk => ?_; simp -implicitDefEqProofs only [evr, id, seval, ev_one, res_one, fg_one, idn_one, idn_0, idn_1, idn_2, par_one, u32_one, resRow, res_ro, rExtract_tup, tl_get, tl_set, evn]; refine hk _ ?_; clear hk k; try show Sat _ _ _ _ _)
    refine Sat.ret ?_
    simp only [Tryz.results14, evr, id, seval, ev_one, res_one, fg_one, idn_one, idn_0, idn_1, idn_2, par_one, u32_one, List.append_nil, Int.toNat_zero, Nat.sub_self, Int.reduceToNat, resRow, res_ro, rExtract_tup, tl_get, tl_set]
    exact .inl ⟨_, rfl⟩
  have hb : xs.any (fun x => !validR x) = false := by
    cases hx : xs.any (fun x => !validR x) with
    | false => rfl
    | true => rw [hx] at h; cases h
  refine Sat.skip ?_
  simp only [thenK]
  (repeat refine Sat.seq ?_)
  have hT : mqT Tryz.prog 98 = some (true, [.u32], 30) := by kernel_rfl
  (refine Sat.region_k fun k hk => ?_; simp -implicitDefEqProofs only [evr, id, seval, ev_one, res_one, fg_one, idn_one, idn_0, idn_1, idn_2, par_one, u32_one, resRow, res_ro, rExtract_tup, tl_get, tl_set, evn])
  refine makeMq hT (show 27 < 127 by decide) fun mb => ?_
  simp -implicitDefEqProofs only [evr, id, seval, ev_one, res_one, fg_one, idn_one, idn_0, idn_1, idn_2, par_one, u32_one, resRow, res_ro, rExtract_tup, tl_get, tl_set, evn]
  (refine hk _ ?_; clear hk k; try show Sat _ _ _ _ _)
  (repeat refine Sat.seq ?_)
  (refine Sat.region_k fun k hk => ?_; simp -implicitDefEqProofs only [evr, id, seval, ev_one, res_one, fg_one, idn_one, idn_0, idn_1, idn_2, par_one, u32_one, resRow, res_ro, rExtract_tup, tl_get, tl_set, evn])
  refine wcall_new (orderC F ad cap xs (by omega) hin) rfl rfl ?_
  rintro ra ty len rc sz rrd ⟨a, c, ys, ho, hyl, e⟩
  simp only [resRow, Eng.Own.row.injEq] at e
  obtain ⟨rfl, rfl, rfl, rfl, rfl, rfl⟩ := e
  simp -implicitDefEqProofs only [evr, id, seval, ev_one, res_one, fg_one, idn_one, idn_0, idn_1, idn_2, par_one, u32_one, resRow, res_ro, rExtract_tup, tl_get, tl_set, evn]
  (refine hk _ ?_; clear hk k; try show Sat _ _ _ _ _)
  refine Sat.settleLastRow [.mq mb true [.u32] 0 (fun _ => []) fun _ => default] 29 rfl ?_
  refine Sat.reown (own' := [.gone, .mq mb true [.u32] 0 (fun _ => []) fun _ => default, .gone]) (fun _ => 0) (fun i o ho => (by
    match i, ho with
    | 0, ho => exact .inl (by simpa using ho.symm)
    | 1, ho => exact .inr (by simpa using ho)
    | 2, ho => exact .inl (by simpa using ho.symm)
    | i + 3, ho => simp at ho)) (fun i j o o' hij ho ho' g1 g2 => (by
    match i, j, ho, ho' with
    | 0, _, ho, _ => exact absurd (by simpa using ho.symm) g1
    | 2, _, ho, _ => exact absurd (by simpa using ho.symm) g1
    | _, 0, _, ho' => exact absurd (by simpa using ho'.symm) g2
    | _, 2, _, ho' => exact absurd (by simpa using ho'.symm) g2
    | 1, 1, _, _ => omega
    | i + 3, _, ho, _ => simp at ho
    | _, j + 3, _, ho' => simp at ho')) ?_
  refine Sat.redo 5 (.mp 1 mb) rfl rfl (fun _ _ => trivial) ?_
  (repeat refine Sat.seq ?_)
  refine Sat.block ?_
  refine Sat.loop (ι := Nat × List Sg) (fun z => ⟨127, [(31, .i .i64 z.1), (30, .i .i64 ys.length), (29, .sl ra ys.length rc 17 (resRd ys.toArray)), (5, .mp 1 mb), (0, .sl ad xs.length cap 17 (resRd xs.toArray))], .gone :: .mq mb true [.u32] z.2.length (sKey z.2) (sVal z.2) :: .gone :: z.2.map Sg.row⟩)
    (fun z => z.1 ≤ ys.length ∧ SeenOk (ys.take z.1) z.2) (fun z => ys.length - z.1) (0, []) ⟨Nat.zero_le _, SeenOk.nil⟩ (by
      simp only [List.map_nil, List.length_nil]
      simp -implicitDefEqProofs only [evr, id, seval, ev_one, res_one, fg_one, idn_one, idn_0, idn_1, idn_2, par_one, u32_one, resRow, res_ro, rExtract_tup, tl_get, tl_set, evl, evn]
      try exact fun i hi => absurd hi (Nat.not_lt_zero _)) ?_
  rintro ⟨i, X⟩ ⟨hi, hG⟩
  simp only at hi hG ⊢
  obtain ⟨T, hTd⟩ : ∃ T, T = X.map Sg.row := ⟨_, rfl⟩
  rw [← hTd]
  have hTl : T.length = X.length := by rw [hTd, List.length_map]
  have hnum := hG.num
  rw [List.length_take] at hnum
  (repeat refine Sat.seq ?_)
  (refine Sat.region_k fun k hk => ?_; simp -implicitDefEqProofs only [evr, id, seval, ev_one, res_one, fg_one, idn_one, idn_0, idn_1, idn_2, par_one, u32_one, resRow, res_ro, rExtract_tup, tl_get, tl_set, evn]; refine hk _ ?_; clear hk k; try show Sat _ _ _ _ _)
  (repeat refine Sat.seq ?_)
  refine Sat.cond_b rfl (fun h3 => ?_) (fun h3 => ?_)
  · have hlt : i < ys.length := by simp only [decide_eq_true_eq] at h3; omega
    have e1 : IntKind.i64.wrap ((i : Int) + 1) = ((i + 1 : Nat) : Int) := by rw [w64 (by omega)]; omega
    obtain ⟨r, hr⟩ : ∃ r, r = ys.toArray[i]! := ⟨_, rfl⟩
    have hri : ys[i] = r := by rw [hr, getB hlt]
    have htk : ys.take (i + 1) = ys.take i ++ [r] := by rw [List.take_succ_eq_append_getElem hlt, hri]
    refine Sat.skip ?_
    simp only [thenK]
    (repeat refine Sat.seq ?_)
    refine Sat.block ?_
    (repeat refine Sat.seq ?_)
    (refine Sat.region_k fun k hk => ?_; simp -implicitDefEqProofs only [evr, id, seval, ev_one, res_one, fg_one, idn_one, idn_0, idn_1, idn_2, par_one, u32_one, resRow, res_ro, rExtract_tup, tl_get, tl_set, evn])
    refine ⟨by omega, fun b7 => ?_⟩
    (refine hk _ ?_; clear hk k; try show Sat _ _ _ _ _)
    refine Sat.settleLast (.gone :: .mq mb true [.u32] X.length (sKey X) (sVal X) :: .gone :: T) 7 rfl ?_
    refine Sat.le (st' := ⟨127, [(7, .el ⟨b7, 0, none⟩ 17 fun j => (Res.cs r).getD j default), (31, .i .i64 i), (30, .i .i64 ys.length), (29, .sl ra ys.length rc 17 (resRd ys.toArray)), (5, .mp 1 mb), (0, .sl ad xs.length cap 17 (resRd xs.toArray))], .gone :: .mq mb true [.u32] X.length (sKey X) (sVal X) :: .gone :: T⟩) ?_ (by
      simp only [List.length_cons, List.length_nil]
      simp -implicitDefEqProofs only [evr, id, seval, ev_one, res_one, fg_one, idn_one, idn_0, idn_1, idn_2, par_one, u32_one, resRow, res_ro, rExtract_tup, tl_get, tl_set, evl, evn]
      exact ⟨by rw [hr]; rfl, ownLe_refl _⟩)
    simp only [Res.cs]
    (repeat refine Sat.seq ?_)
    (refine Sat.region_k fun k hk => ?_; simp -implicitDefEqProofs only [evr, id, seval, ev_one, res_one, fg_one, idn_one, idn_0, idn_1, idn_2, par_one, u32_one, resRow, res_ro, rExtract_tup, tl_get, tl_set, evn])
    refine wcall_plain (wayC F r) rfl (by rintro _ rfl; exact ok_plain rfl) ?_
    rintro _ rfl
    simp -implicitDefEqProofs only [evr, id, seval, ev_one, res_one, fg_one, idn_one, idn_0, idn_1, idn_2, par_one, u32_one, resRow, res_ro, rExtract_tup, tl_get, tl_set, evn]
    (refine hk _ ?_; clear hk k; try show Sat _ _ _ _ _)
    refine Sat.cond_b rfl (fun h4 => ?_) (fun h4 => ?_)
    · rcases Classical.em (∃ j, j < X.length ∧ (X.getD j default).k = r.from_) with ⟨j, hj, hjk⟩ | hno
      · obtain ⟨g, hg⟩ : ∃ g, g = X.getD j default := ⟨_, rfl⟩
        have hXj : X[j]? = some g := by rw [hg, List.getD_eq_getElem?_getD, List.getElem?_eq_getElem hj]; rfl
        have hTj : (Eng.Own.gone :: T)[j + 1]? = some g.row := by rw [List.getElem?_cons_succ, hTd, List.getElem?_map, hXj]; rfl
        refine Sat.pull (j + 1) hTj ?_
        simp only [List.set_cons_succ]
        obtain ⟨T1, hT1⟩ : ∃ T1, T1 = T.set j Eng.Own.gone := ⟨_, rfl⟩
        rw [← hT1]
        simp only [Sg.row, idnRow]
        have hgk : g.k = r.from_ := by rw [hg]; exact hjk
        have hgm : g ∈ X := List.mem_of_getElem? hXj
        have hgl : g.ids.length ≤ 512 := by
          have := hG.len g hgm
          rw [List.length_take] at this
          omega
        have hsv : sVal X j = .os 0 g.a g.ids.length g.cap := by unfold sVal; rw [← hg]
        have hjj : ∀ j2, j2 < X.length → sKey X j2 = [r.from_] → j2 = j := fun j2 hj2 hk2 => sKey_inj hG.nodup hj2 hj (by rw [hk2]; unfold sKey; rw [hjk])
        refine Sat.atF (ι := Option Addr × Nat) (fun z => ⟨127, [(31, .i .i64 i), (30, .i .i64 ys.length), (29, .sl ra ys.length rc 17 (resRd ys.toArray)), (5, .mp 1 mb), (0, .sl ad xs.length cap 17 (resRd xs.toArray))], .row z.1 27 (g.ids.length + 1) z.2 3 (idnRd (g.ids ++ [r.idn]).toArray) :: .mq mb true [.u32] X.length (sKey X) (fun q => if q = j then .os 0 z.1 (g.ids.length + 1) z.2 else sVal X q) :: .gone :: T1⟩) (fun _ => True) ?_ ?_
        · (refine Sat.region_tree (.keep [0, 1, 2, 4, 5, 6, 7, 9] [3, 8, 10, 11] (.alt 3 (.alt 8 (.one 10 (.one 11 (.one 12 (.one 13 .done)))) (.alt 10 (.alt 8 (.one 11 (.one 12 (.one 13 .done))) (.alt 11 (.one 8 (.one 12 (.one 13 .done))) .none)) .none)) (.alt 8 (.alt 3 (.one 10 (.one 11 (.one 12 (.one 13 .done)))) (.alt 10 (.alt 3 (.one 11 (.one 12 (.one 13 .done))) (.alt 11 (.alt 3 (.one 12 (.one 13 .done)) (.alt 12 (.one 3 (.one 13 .done)) .none)) .none)) .none)) (.alt 10 (.alt 3 (.alt 8 (.one 11 (.one 12 (.one 13 .done))) (.alt 11 (.one 8 (.one 12 (.one 13 .done))) .none)) (.alt 8 (.alt 3 (.one 11 (.one 12 (.one 13 .done))) (.alt 11 (.alt 3 (.one 12 (.one 13 .done)) (.alt 12 (.one 3 (.one 13 .done)) .none)) .none)) (.alt 11 (.alt 3 (.one 8 (.one 12 (.one 13 .done))) (.alt 8 (.alt 3 (.one 12 (.one 13 .done)) (.alt 12 (.one 3 (.one 13 .done)) .none)) .none)) .none))) .none)))) (by kernel_rfl) (by kernel_rfl) (fun _ _ h => h) fun k hk => ?_; simp only [WOT, List.map_cons, List.map_nil, List.getD_cons_zero, List.getD_cons_succ]; simp -implicitDefEqProofs only [evr, id, seval, ev_one, res_one, fg_one, idn_one, idn_0, idn_1, idn_2, par_one, u32_one, resRow, res_ro, rExtract_tup, tl_get, tl_set, WOT, evn])
          repeat' (first
            | (with_reducible refine And.intro ?_ ?_)
            | rfl
            | (rw [List.take_left]; done)
            | (rw [List.take_length]; done)
            | (refine lookMq (l := [r.from_]) hT (mqIn_own (id := 1) (m := .tmp 41) rfl rfl) rfl rfl (.sl none 0 0 0 fun _ _ => .v undef) (by kernel_rfl) (fun R w => ⟨Nat.le_refl _, Nat.zero_le _, .inl rfl⟩) (show 45 < 127 by decide) (fun j2 hj2 hk2 => ?_) (fun hno2 => absurd (by unfold sKey; rw [hjk]) (hno2 j hj))
               rw [hjj j2 hj2 hk2, hsv]
               simp -implicitDefEqProofs only [evr, id, seval, ev_one, res_one, fg_one, idn_one, idn_0, idn_1, idn_2, par_one, u32_one, resRow, res_ro, rExtract_tup, tl_get, tl_set, evn])
            | (refine wcall_plain (identC F r) rfl (by rintro _ rfl; exact idAg_ok _) ?_; rintro _ rfl; simp only [idAg, evr, id, seval, ev_one, res_one, fg_one, idn_one, idn_0, idn_1, idn_2, par_one, u32_one, List.append_nil, Int.toNat_zero, Nat.sub_self, Int.reduceToNat, resRow, res_ro, rExtract_tup, tl_get, tl_set])
            | (refine updMq (l := [r.from_]) (id := 1) hT rfl rfl rfl rfl rfl trivial (fun j2 hj2 hk2 => ?_) (fun hno2 => absurd (by unfold sKey; rw [hjk]) (hno2 j hj))
               rw [hjj j2 hj2 hk2]
               simp -implicitDefEqProofs only [evr, id, seval, ev_one, res_one, fg_one, idn_one, idn_0, idn_1, idn_2, par_one, u32_one, resRow, res_ro, rExtract_tup, tl_get, tl_set, evn])
            | (unfold maxLen; omega)
            | omega
            | (refine fun (a3 : Option Addr) (c3 : Nat) => ?_)
            | (with_reducible intro bs))
          all_goals
            refine hk _ ?_
            simp only [thenK]
            refine ⟨(a3, c3), trivial, ?_⟩
            simp -implicitDefEqProofs only [evr, id, seval, ev_one, res_one, fg_one, idn_one, idn_0, idn_1, idn_2, par_one, u32_one, resRow, res_ro, rExtract_tup, tl_get, tl_set, evl, evn]
            exact ⟨idn_app rfl, ownLe_app _ _⟩
        rintro ⟨a3, c3⟩ -
        simp only [thenK, blockK]
        obtain ⟨g2, hg2⟩ : ∃ g2 : Sg, g2 = ⟨r.from_, g.ids ++ [r.idn], a3, c3⟩ := ⟨_, rfl⟩
        have hXn : X[j] = g := by rw [List.getElem?_eq_getElem hj] at hXj; simpa using hXj
        have hG2 := hG.hit h4 hj (by rw [hXn]; exact hgk) g2 (by rw [hg2]) (by rw [hg2, hXn])
        rw [← htk] at hG2
        refine Sat.leOwn (own' := g2.row :: .mq mb true [.u32] (X.set j g2).length (sKey (X.set j g2)) (sVal (X.set j g2)) :: .gone :: T1) ⟨?_, ⟨rfl, rfl, rfl, by rw [List.length_set], fun q hq => ?_⟩, trivial, ownLe_refl _⟩ ?_
        · rw [hg2]
          simp only [Sg.row, idnRow, List.length_append, List.length_singleton]
          exact own_refl _
        · unfold sKey sVal
          simp only []
          by_cases h9 : q = j
          · subst h9
            rw [getD_set_self hj, if_pos rfl, hjk, hg2]
            exact ⟨rfl, by simp⟩
          · rw [getD_set_ne (Ne.symm h9), if_neg h9]
            exact ⟨rfl, rfl⟩
        refine Sat.push (T := .gone :: T1) (j + 1) (by rw [List.getElem?_cons_succ, hT1, List.getElem?_set_self (by omega)]) ?_
        simp only [List.set_cons_succ]
        have hTn : T1.set j g2.row = (X.set j g2).map Sg.row := by rw [hT1, List.set_set, hTd, List.map_set]
        rw [hTn]
        generalize X.set j g2 = X2 at hG2
        refine Sat.region_k fun kk hk => ?_
        simp -implicitDefEqProofs only [evr, id, seval, ev_one, res_one, fg_one, idn_one, idn_0, idn_1, idn_2, par_one, u32_one, resRow, res_ro, rExtract_tup, tl_get, tl_set, e1, evn]
        refine hk _ ?_
        simp only [thenK, blockK]
        refine ⟨(i + 1, X2), ⟨by simp only; omega, hG2⟩, by simp only; omega, ?_⟩
        simp -implicitDefEqProofs only [evr, id, seval, ev_one, res_one, fg_one, idn_one, idn_0, idn_1, idn_2, par_one, u32_one, resRow, res_ro, rExtract_tup, tl_get, tl_set, evl, evn]
        exact ownLe_refl _
      · have hnk : ∀ j2, j2 < X.length → sKey X j2 ≠ [r.from_] := fun j2 hj2 e => hno ⟨j2, hj2, by unfold sKey at e; simpa using e⟩
        refine Sat.nilAt 0 27 3 (idnRd #[]) rfl ?_
        simp only [List.set_cons_zero]
        (repeat refine Sat.seq ?_)
        refine Sat.atF (ι := Option Addr × Nat) (fun z => ⟨127, [(31, .i .i64 i), (30, .i .i64 ys.length), (29, .sl ra ys.length rc 17 (resRd ys.toArray)), (5, .mp 1 mb), (0, .sl ad xs.length cap 17 (resRd xs.toArray))], .row z.1 27 1 z.2 3 (idnRd [r.idn].toArray) :: .mq mb true [.u32] (X.length + 1) (fun q => if q = X.length then [r.from_] else sKey X q) (fun q => if q = X.length then .os 0 z.1 1 z.2 else sVal X q) :: .gone :: T⟩) (fun _ => True) ?_ ?_
        · (refine Sat.region_tree (.keep [0, 1, 2, 4, 5, 6, 7, 9] [3, 8, 10, 11] (.alt 3 (.alt 8 (.one 10 (.one 11 (.one 12 (.one 13 .done)))) (.alt 10 (.alt 8 (.one 11 (.one 12 (.one 13 .done))) (.alt 11 (.one 8 (.one 12 (.one 13 .done))) .none)) .none)) (.alt 8 (.alt 3 (.one 10 (.one 11 (.one 12 (.one 13 .done)))) (.alt 10 (.alt 3 (.one 11 (.one 12 (.one 13 .done))) (.alt 11 (.alt 3 (.one 12 (.one 13 .done)) (.alt 12 (.one 3 (.one 13 .done)) .none)) .none)) .none)) (.alt 10 (.alt 3 (.alt 8 (.one 11 (.one 12 (.one 13 .done))) (.alt 11 (.one 8 (.one 12 (.one 13 .done))) .none)) (.alt 8 (.alt 3 (.one 11 (.one 12 (.one 13 .done))) (.alt 11 (.alt 3 (.one 12 (.one 13 .done)) (.alt 12 (.one 3 (.one 13 .done)) .none)) .none)) (.alt 11 (.alt 3 (.one 8 (.one 12 (.one 13 .done))) (.alt 8 (.alt 3 (.one 12 (.one 13 .done)) (.alt 12 (.one 3 (.one 13 .done)) .none)) .none)) .none))) .none)))) (by kernel_rfl) (by kernel_rfl) (fun _ _ h => h) fun k hk => ?_; simp only [WOT, List.map_cons, List.map_nil, List.getD_cons_zero, List.getD_cons_succ]; simp -implicitDefEqProofs only [evr, id, seval, ev_one, res_one, fg_one, idn_one, idn_0, idn_1, idn_2, par_one, u32_one, resRow, res_ro, rExtract_tup, tl_get, tl_set, WOT, evn])
          repeat' (first
            | (with_reducible refine And.intro ?_ ?_)
            | rfl
            | (rw [List.take_left]; done)
            | (rw [List.take_length]; done)
            | (refine lookMq (l := [r.from_]) hT (mqIn_own (id := 1) (m := .tmp 41) rfl rfl) rfl rfl (.os 0 none 0 0) (by kernel_rfl) (fun R w => trivial) (show 45 < 127 by decide) (fun j2 hj2 hk2 => absurd hk2 (hnk j2 hj2)) (fun _ => ?_)
               simp -implicitDefEqProofs only [evr, id, seval, ev_one, res_one, fg_one, idn_one, idn_0, idn_1, idn_2, par_one, u32_one, resRow, res_ro, rExtract_tup, tl_get, tl_set, evn])
            | (refine wcall_plain (identC F r) rfl (by rintro _ rfl; exact idAg_ok _) ?_; rintro _ rfl; simp only [idAg, evr, id, seval, ev_one, res_one, fg_one, idn_one, idn_0, idn_1, idn_2, par_one, u32_one, List.append_nil, Int.toNat_zero, Nat.sub_self, Int.reduceToNat, resRow, res_ro, rExtract_tup, tl_get, tl_set])
            | (refine updMq (l := [r.from_]) (id := 1) hT rfl rfl rfl rfl rfl trivial (fun j2 hj2 hk2 => absurd hk2 (hnk j2 hj2)) (fun _ => ?_)
               simp -implicitDefEqProofs only [evr, id, seval, ev_one, res_one, fg_one, idn_one, idn_0, idn_1, idn_2, par_one, u32_one, resRow, res_ro, rExtract_tup, tl_get, tl_set, evn])
            | (unfold maxLen; omega)
            | omega
            | (refine fun (a3 : Option Addr) (c3 : Nat) => ?_)
            | (with_reducible intro bs))
          all_goals
            refine hk _ ?_
            simp only [thenK]
            refine ⟨(a3, c3), trivial, ?_⟩
            simp -implicitDefEqProofs only [evr, id, seval, ev_one, res_one, fg_one, idn_one, idn_0, idn_1, idn_2, par_one, u32_one, resRow, res_ro, rExtract_tup, tl_get, tl_set, evl, evn]
            exact ⟨idn_app (ys := []) rfl, ownLe_app _ _⟩
        rintro ⟨a3, c3⟩ -
        simp only [thenK, blockK]
        obtain ⟨g2, hg2⟩ : ∃ g2 : Sg, g2 = ⟨r.from_, [r.idn], a3, c3⟩ := ⟨_, rfl⟩
        have hG2 := hG.miss h4 (fun g hg e => by
          obtain ⟨q, hq, rfl⟩ := List.getElem_of_mem hg
          exact hno ⟨q, hq, by rw [List.getD_eq_getElem?_getD, List.getElem?_eq_getElem hq]; exact e⟩) g2 (by rw [hg2]) (by rw [hg2])
        rw [← htk] at hG2
        obtain ⟨X2, hX2⟩ : ∃ X2, X2 = X ++ [g2] := ⟨_, rfl⟩
        have hX2l : X2.length = X.length + 1 := by rw [hX2, List.length_append]; rfl
        rw [← hX2] at hG2
        refine Sat.leOwn (own' := g2.row :: .mq mb true [.u32] X2.length (sKey X2) (sVal X2) :: .gone :: T) ⟨?_, ⟨rfl, rfl, rfl, hX2l.symm, fun q hq => ?_⟩, trivial, ownLe_refl _⟩ ?_
        · rw [hg2]
          exact own_refl _
        · unfold sKey sVal
          rw [hX2]
          simp only []
          by_cases h9 : q = X.length
          · subst h9
            have e9 : (X ++ [g2]).getD X.length default = g2 := by rw [List.getD_eq_getElem?_getD, List.getElem?_concat_length]; rfl
            rw [e9, if_pos rfl, if_pos rfl, hg2]
            exact ⟨rfl, rfl⟩
          · have e9 : (X ++ [g2]).getD q default = X.getD q default := by
              rw [List.getD_eq_getElem?_getD, List.getElem?_append_left (by omega), List.getD_eq_getElem?_getD]
            rw [e9, if_neg h9, if_neg h9]
            exact ⟨rfl, rfl⟩
        refine Sat.pushNew (T := .gone :: T) ?_
        simp only [List.cons_append]
        have hTn : T ++ [g2.row] = X2.map Sg.row := by rw [hX2, List.map_append, hTd]; rfl
        rw [hTn]
        refine Sat.region_k fun kk hk => ?_
        simp -implicitDefEqProofs only [evr, id, seval, ev_one, res_one, fg_one, idn_one, idn_0, idn_1, idn_2, par_one, u32_one, resRow, res_ro, rExtract_tup, tl_get, tl_set, e1, evn]
        refine hk _ ?_
        simp only [thenK, blockK]
        refine ⟨(i + 1, X2), ⟨by simp only; omega, hG2⟩, by simp only; omega, ?_⟩
        simp -implicitDefEqProofs only [evr, id, seval, ev_one, res_one, fg_one, idn_one, idn_0, idn_1, idn_2, par_one, u32_one, resRow, res_ro, rExtract_tup, tl_get, tl_set, evl, evn]
        exact ownLe_refl _
    · have hw : wayR r = false := h4
      refine Sat.skip ?_
      simp only [thenK, blockK]
      refine Sat.region_k fun kk hk => ?_
      simp -implicitDefEqProofs only [evr, id, seval, ev_one, res_one, fg_one, idn_one, idn_0, idn_1, idn_2, par_one, u32_one, resRow, res_ro, rExtract_tup, tl_get, tl_set, e1, evn]
      refine hk _ ?_
      simp only [thenK, blockK]
      refine ⟨(i + 1, X), ⟨by simp only; omega, by simp only; rw [htk]; exact hG.skip hw⟩, by simp only; omega, ?_⟩
      simp only
      rw [← hTd]
      simp -implicitDefEqProofs only [evr, id, seval, ev_one, res_one, fg_one, idn_one, idn_0, idn_1, idn_2, par_one, u32_one, resRow, res_ro, rExtract_tup, tl_get, tl_set, evl, evn]
      exact ownLe_refl _
  have h1 : i = ys.length := by simp only [decide_eq_false_iff_not] at h3; omega
  subst h1
  rw [List.take_length] at hG
  clear hnum
  refine Sat.exit ?_
  simp only [thenK, blockK, reduceIte]
  (repeat refine Sat.seq ?_)
  refine Sat.region_k fun kk hk => ?_
  simp -implicitDefEqProofs only [evr, id, seval, ev_one, res_one, fg_one, idn_one, idn_0, idn_1, idn_2, par_one, u32_one, resRow, res_ro, rExtract_tup, tl_get, tl_set, evn]
  refine rangeMq hT (mqIn_own (id := 1) (m := .tmp 51) rfl rfl) (show 52 < 127 by decide) fun it => ?_
  simp -implicitDefEqProofs only [evr, id, seval, ev_one, res_one, fg_one, idn_one, idn_0, idn_1, idn_2, par_one, u32_one, resRow, res_ro, rExtract_tup, tl_get, tl_set, evn]
  refine hk _ ?_
  clear hk kk
  simp only [thenK]
  refine Sat.toSlot ?_
  have hkv : ∀ i, (SV.i .u32 (X.getD i default).k).den = keyV true [.u32] (sKey X i) := fun i => rfl
  have hX512 : X.length ≤ 512 := by have := hG.num; omega
  refine Sat.block ?_
  refine Sat.loop (ι := List Nat × List Sg × Option Nat) (fun z => ⟨127, [(52, .v (.pointer (some ⟨it, 0, none⟩))), (5, .mp 1 mb), (0, .sl ad xs.length cap 17 (resRd xs.toArray))], plOwn (.mq mb true [.u32] X.length (sKey X) (sVal X)) (.res it (IterMap it mb X.length z.1)) z.2.1 z.2.2⟩)
    (fun z => z.1.Nodup ∧ (∀ i ∈ z.1, i < X.length) ∧ SortSome X z.2.1 z.1 ∧ ∀ i, z.2.2 = some i → i < X.length) (fun z => X.length - z.1.length) ([], X, none) ⟨List.nodup_nil, fun i hi => (by cases hi), ⟨rfl, fun i hi => ⟨rfl, rfl, rfl, .refl _, fun h => (by cases h)⟩⟩, fun i h => (by cases h)⟩ (by
      simp only [plOwn]
      rw [← hTd]
      simp -implicitDefEqProofs only [evr, id, seval, ev_one, res_one, fg_one, idn_one, idn_0, idn_1, idn_2, par_one, u32_one, resRow, res_ro, rExtract_tup, tl_get, tl_set, evl, evn]
      first | exact ownLe_refl _ | exact ⟨own_le _, ownLe_refl _⟩) ?_
  clear hTd hTl T
  rintro ⟨seen, Y, pl⟩ ⟨hnd, hsl, hSo, hpl⟩
  simp only at hnd hsl hSo hpl ⊢
  refine Sat_unpl (fun i hi => by rw [hSo.1]; exact hpl i hi) ?_
  obtain ⟨T, hTd⟩ : ∃ T, T = Y.map Sg.row := ⟨_, rfl⟩
  rw [← hTd]
  have hTl : T.length = X.length := by rw [hTd, List.length_map, hSo.1]
  have hsln := seen_lenA hnd hsl
  (repeat refine Sat.seq ?_)
  refine Sat.region_k fun kk hk => ?_
  simp -implicitDefEqProofs only [evr, id, seval, ev_one, res_one, fg_one, idn_one, idn_0, idn_1, idn_2, par_one, u32_one, resRow, res_ro, rExtract_tup, tl_get, tl_set, evn]
  refine nextMq (oid := 2) rfl rfl rfl (mqIn_own (id := 1) (m := .tmp 5) rfl rfl) (fun i => .i .u32 (X.getD i default).k) (fun i _ => hkv i) (fun i R w => trivial) (show 53 < 127 by decide) (fun i hi hs => ?_) (fun ha => ?_)
  · simp -implicitDefEqProofs only [evr, id, seval, ev_one, res_one, fg_one, idn_one, idn_0, idn_1, idn_2, par_one, u32_one, resRow, res_ro, rExtract_tup, tl_get, tl_set, evn]
    refine hk _ ?_
    clear hk kk
    have hnd2 : (seen ++ [i]).Nodup := by
      rw [List.nodup_append]
      exact ⟨hnd, by simp, fun a ha b hb => by rw [List.mem_singleton] at hb; subst hb; exact fun e => hs (e ▸ ha)⟩
    have hsl2 : ∀ j ∈ seen ++ [i], j < X.length := fun j hj => by
      rcases List.mem_append.1 hj with hj | hj
      · exact hsl j hj
      · rw [List.mem_singleton] at hj; subst hj; exact hi
    have hlen := seen_lenA hnd2 hsl2
    rw [List.length_append, List.length_singleton] at hlen
    obtain ⟨g, hg⟩ : ∃ g, g = Y.getD i default := ⟨_, rfl⟩
    have hiY : i < Y.length := by rw [hSo.1]; exact hi
    have hYi : Y[i]? = some g := by rw [hg, List.getD_eq_getElem?_getD, List.getElem?_eq_getElem hiY]; rfl
    obtain ⟨s1, s2, s3, s4, _⟩ := hSo.2 i hi
    have hgl : g.ids.length ≤ 512 := by
      have h8 := s4.length_eq
      rw [← hg] at h8
      have h9 := hG.len (X.getD i default) (by rw [List.getD_eq_getElem?_getD, List.getElem?_eq_getElem hi]; exact List.getElem_mem hi)
      omega
    have hsv : sVal X i = .os 0 g.a g.ids.length g.cap := by
      unfold sVal
      rw [← s2, ← s3, ← s4.length_eq, ← hg]
    simp only [thenK]
    (repeat refine Sat.seq ?_)
    refine Sat.cond_tt rfl ?_
    refine Sat.skip ?_
    simp only [thenK]
    (repeat refine Sat.seq ?_)
    refine Sat.block ?_
    (repeat refine Sat.seq ?_)
    refine Sat.region_k fun kk hk => ?_
    simp -implicitDefEqProofs only [evr, id, seval, ev_one, res_one, fg_one, idn_one, idn_0, idn_1, idn_2, par_one, u32_one, resRow, res_ro, rExtract_tup, tl_get, tl_set, evn]
    refine entryIterMq (oid := 2) (seen := seen) rfl rfl hi (mqIn_own (id := 1) (m := .tmp 5) rfl rfl) (fun i => .i .u32 (X.getD i default).k) (hkv i) (fun R w => trivial) (show 55 < 127 by decide) ?_
    rw [hsv]
    simp -implicitDefEqProofs only [evr, id, seval, ev_one, res_one, fg_one, idn_one, idn_0, idn_1, idn_2, par_one, u32_one, resRow, res_ro, rExtract_tup, tl_get, tl_set, evn]
    refine hk _ ?_
    clear hk kk
    simp only [thenK]
    refine Sat.pull (T := .res it (IterMap it mb X.length (seen ++ [i])) :: T) (i + 1) (show _ = some g.row by rw [List.getElem?_cons_succ, hTd, List.getElem?_map, hYi]; rfl) ?_
    simp only [List.set_cons_succ]
    obtain ⟨T1, hT1⟩ : ∃ T1, T1 = T.set i Eng.Own.gone := ⟨_, rfl⟩
    rw [← hT1]
    simp only [Sg.row, idnRow]
    refine Sat.region_k fun kk hk => ?_
    simp -implicitDefEqProofs only [evr, id, seval, ev_one, res_one, fg_one, idn_one, idn_0, idn_1, idn_2, par_one, u32_one, resRow, res_ro, rExtract_tup, tl_get, tl_set, evn]
    refine wcall_mut 0 (idnSortC F idnLt_swo idnCmp1 g.a g.cap g.ids.length (by omega) g.ids.toArray (by simp)) rfl rfl ?_
    rintro r o1 ⟨rfl, d', hd', ⟨hperm, hsort⟩, rfl⟩
    simp only [idnRow, evr, id, seval, ev_one, res_one, fg_one, idn_one, idn_0, idn_1, idn_2, par_one, u32_one, List.append_nil, Int.toNat_zero, Nat.sub_self, Int.reduceToNat, resRow, res_ro, rExtract_tup, tl_get, tl_set]
    refine hk _ ?_
    clear hk kk
    simp only [thenK, blockK]
    obtain ⟨p3, q3⟩ := idn_sorted (L := g.ids) hd' hperm hsort
    obtain ⟨g2, hg2⟩ : ∃ g2 : Sg, g2 = ⟨g.k, d'.toList, g.a, g.cap⟩ := ⟨_, rfl⟩
    have hdl : g2.ids.length = g.ids.length := by rw [hg2]; exact p3.length_eq
    refine ⟨(seen ++ [i], Y.set i g2, some i), ⟨hnd2, hsl2, ⟨by rw [List.length_set]; exact hSo.1, fun q hq => ?_⟩, fun q h9 => (by simp only [Option.some.injEq] at h9; rw [← h9]; exact hi)⟩, by simp only [List.length_append, List.length_singleton]; omega, ?_⟩
    · simp only []
      by_cases h9 : q = i
      · subst h9
        rw [getD_set_self hiY, hg2]
        simp only []
        rw [hg]
        refine ⟨s1, s2, s3, ?_, fun _ => q3⟩
        rw [hg] at p3
        exact p3.trans s4
      · rw [getD_set_ne (Ne.symm h9)]
        obtain ⟨u1, u2, u3, u4, u5⟩ := hSo.2 q hq
        refine ⟨u1, u2, u3, u4, fun h8 => u5 ?_⟩
        rcases List.mem_append.1 h8 with h8 | h8
        · exact h8
        · rw [List.mem_singleton] at h8; exact absurd h8 h9
    · have e8 : (Y.map Sg.row).set i .gone = ((Y.set i g2).map Sg.row).set i .gone := by rw [List.map_set, List.set_set]
      simp only [plOwn]
      rw [getD_set_self hiY, ← e8, ← hTd, ← hT1]
      simp only [Sg.row, idnRow]
      rw [hdl, hg2]
      simp -implicitDefEqProofs only [evr, id, seval, ev_one, res_one, fg_one, idn_one, idn_0, idn_1, idn_2, par_one, u32_one, resRow, res_ro, rExtract_tup, tl_get, tl_set, evl, evn]
      first | exact ownLe_refl _ | exact ⟨own_le _, ownLe_refl _⟩
  · simp -implicitDefEqProofs only [evr, id, seval, ev_one, res_one, fg_one, idn_one, idn_0, idn_1, idn_2, par_one, u32_one, resRow, res_ro, rExtract_tup, tl_get, tl_set, evn]
    refine hk _ ?_
    clear hk kk
    simp only [thenK]
    (repeat refine Sat.seq ?_)
    refine Sat.cond_ff rfl ?_
    refine Sat.exit ?_
    simp only [thenK, blockK, reduceIte]
    have hall : ∀ i, i < Y.length → (Y.getD i default).ids.Pairwise fun x y => idnLt y x = false := fun i hi => (hSo.2 i (by have := hSo.1; omega)).2.2.2.2 (ha i (by have := hSo.1; omega))
    have hYv : ∀ i, i < X.length → sKey X i = sKey Y i ∧ sVal X i = sVal Y i := fun i hi => by
      obtain ⟨u1, u2, u3, u4, _⟩ := hSo.2 i hi
      unfold sKey sVal
      rw [u1, u2, u3, u4.length_eq]
      exact ⟨rfl, rfl⟩
    have hV := fun k d => (seenV_mem hG hSo k d).trans (show (∃ r ∈ ys, wayR r = true ∧ r.from_ = k ∧ r.idn = d) ↔ ∃ r ∈ xs, wayR r = true ∧ r.from_ = k ∧ r.idn = d from ⟨fun ⟨r, h1, h2⟩ => ⟨r, ((ho.2 r).1 h1).1, h2⟩, fun ⟨r, h1, h2⟩ => ⟨r, (ho.2 r).2 ⟨h1, by
      have := h2.1
      simp only [wayR, usableR, Bool.and_eq_true] at this
      exact this.2.2.2⟩, h2⟩⟩)
    have hYn : (Y.map Sg.k).Nodup := by
      have hk : Y.map Sg.k = X.map Sg.k := by
        apply List.ext_getElem
        · simp [hSo.1]
        · intro i h1 h2
          rw [List.length_map] at h1 h2
          have := (hSo.2 i h2).1
          rw [List.getD_eq_getElem?_getD, List.getElem?_eq_getElem h1, List.getD_eq_getElem?_getD, List.getElem?_eq_getElem h2] at this
          simpa using this
      rw [hk]; exact hG.nodup
    have hYlen : ∀ i, i < Y.length → (Y.getD i default).ids.length ≤ 512 := fun i hi => by
      have hi2 : i < X.length := by have := hSo.1; omega
      have h8 := (hSo.2 i hi2).2.2.2.1.length_eq
      have h9 := hG.len (X.getD i default) (by rw [List.getD_eq_getElem?_getD, List.getElem?_eq_getElem hi2]; exact List.getElem_mem hi2)
      omega
    refine Sat.leOwn (own' := .gone :: .mq mb true [.u32] Y.length (sKey Y) (sVal Y) :: .res it (IterMap it mb X.length seen) :: T) ⟨trivial, ⟨rfl, rfl, rfl, hSo.1.symm, fun i hi => hYv i (by simpa using hi)⟩, own_le _, ownLe_refl _⟩ ?_
    refine Sat.reown (own' := .mq mb true [.u32] Y.length (sKey Y) (sVal Y) :: T) (fun j => if j = 0 then 1 else j + 2) (fun j o ho => ?_) (fun i j o o' hij ho ho' _ _ e => ?_) ?_
    · match j, ho with
      | 0, ho => exact .inr (by simpa using ho)
      | j + 1, ho => exact .inr (by rw [if_neg (by omega)]; simpa using ho)
    · split at e <;> split at e <;> omega
    refine Sat.redo 5 (.mp 0 mb) rfl rfl (fun _ _ => trivial) ?_
    refine Sat.settleTail (o' := .mq mb true [.u32] Y.length (sKey Y) (sValS Y)) (fun b hb => hb) (fun R R' B w hRR hT hTb hno ho => ?_) ?_
    · obtain ⟨b1, b2, b3, b4⟩ := ho
      refine ⟨b1, hno _ rfl, b3, fun q hq => ?_⟩
      have htm : (Y.getD q default).row ∈ T := by rw [hTd]; exact List.mem_map.2 ⟨_, getD_mem hq, rfl⟩
      exact row_sl (hT _ htm) hRR (fun b hb => hTb _ htm b hb)
    refine Sat.settleMap 5 rfl rfl ?_
    simp only [List.set_cons_zero]
    have hT2 : mqT Tryz.prog 102 = some (false, [.u32, .u32], 32) := by kernel_rfl
    (repeat refine Sat.seq ?_)
    refine Sat.region_k fun kk hk => ?_
    simp -implicitDefEqProofs only [evr, id, seval, ev_one, res_one, fg_one, idn_one, idn_0, idn_1, idn_2, par_one, u32_one, resRow, res_ro, rExtract_tup, tl_get, tl_set, evn]
    refine makeMq hT2 (show 59 < 127 by decide) fun mb2 => ?_
    simp -implicitDefEqProofs only [evr, id, seval, ev_one, res_one, fg_one, idn_one, idn_0, idn_1, idn_2, par_one, u32_one, resRow, res_ro, rExtract_tup, tl_get, tl_set, evn]
    refine hk _ ?_
    clear hk kk
    simp only [thenK]
    refine Sat.reown (own' := [.mq mb2 false [.u32, .u32] 0 (fun _ => []) fun _ => default]) (fun _ => 1) (fun i o ho => (by
      match i, ho with
      | 0, ho => exact .inr (by simpa using ho)
      | i + 1, ho => simp at ho)) (fun i j o o' hij ho ho' _ _ => (by
      have hi := (List.getElem?_eq_some_iff.1 ho).1
      have hj := (List.getElem?_eq_some_iff.1 ho').1
      simp only [List.length_cons, List.length_nil] at hi hj
      omega)) ?_
    refine Sat.redo 10 (.mp 0 mb2) rfl rfl (fun _ _ => trivial) ?_
    (repeat refine Sat.seq ?_)
    (refine Sat.region_k fun k hk => ?_; simp -implicitDefEqProofs only [evr, id, seval, ev_one, res_one, fg_one, idn_one, idn_0, idn_1, idn_2, par_one, u32_one, resRow, res_ro, rExtract_tup, tl_get, tl_set, evn])
    refine wcall_slice (flowsC F ad cap xs hl hin) rfl rfl ?_
    rintro _ ⟨ga, gc, gs, hfl, hgl, hgr, rfl⟩
    simp -implicitDefEqProofs only [evr, id, seval, ev_one, res_one, fg_one, idn_one, idn_0, idn_1, idn_2, par_one, u32_one, resRow, res_ro, rExtract_tup, tl_get, tl_set, evn]
    (refine hk _ ?_; clear hk k; try show Sat _ _ _ _ _)
    (repeat refine Sat.seq ?_)
    refine Sat.block ?_
    refine Sat.le (st' := ⟨127, [(63, .i .i64 0), (62, .i .i64 gs.length), (61, .sl ga gs.length gc 1 (fgS gs)), (5, .rm mb true [.u32] Y.length (sKey Y) (sValS Y)), (10, .mp 0 mb2)], [.mq mb2 false [.u32, .u32] 0 (fun _ => []) fun _ => default]⟩) ?_ (by simp -implicitDefEqProofs only [evr, id, seval, ev_one, res_one, fg_one, idn_one, idn_0, idn_1, idn_2, par_one, u32_one, resRow, res_ro, rExtract_tup, tl_get, tl_set, evl, evn]; try exact fun i hi => absurd hi (Nat.not_lt_zero _))
    refine Sat.loop (ι := Nat × List Evd) (fun z => ⟨127, [(63, .i .i64 z.1), (62, .i .i64 gs.length), (61, .sl ga gs.length gc 1 (fgS gs)), (5, .rm mb true [.u32] Y.length (sKey Y) (sValS Y)), (10, .mp 0 mb2)], [.mq mb2 false [.u32, .u32] z.2.length (evKey z.2) (evVal z.2)]⟩)
      (fun z => z.1 ≤ gs.length ∧ BestI Evd.pr evB (fun e => (∃ g ∈ gs.take z.1, ∃ a ∈ g.rs, ∃ b ∈ g.rs, mW (seenV Y) a b e)) z.2 ∧ ∀ e ∈ z.2, e.ids.length ≤ 3) (fun z => gs.length - z.1) (0, [])
      ⟨Nat.zero_le _, BestI.start.congr fun x => ⟨fun h => h.elim, fun ⟨g, hg, _⟩ => (by cases hg)⟩, fun e he => (by cases he)⟩ (by simp -implicitDefEqProofs only [evr, id, seval, ev_one, res_one, fg_one, idn_one, idn_0, idn_1, idn_2, par_one, u32_one, resRow, res_ro, rExtract_tup, tl_get, tl_set, evl, evn]; try exact fun i hi => absurd hi (Nat.not_lt_zero _)) ?_
    rintro ⟨i, Z⟩ ⟨hi, hB, hZ⟩
    simp only at hi hB hZ ⊢
    (repeat refine Sat.seq ?_)
    (refine Sat.region_k fun k hk => ?_; simp -implicitDefEqProofs only [evr, id, seval, ev_one, res_one, fg_one, idn_one, idn_0, idn_1, idn_2, par_one, u32_one, resRow, res_ro, rExtract_tup, tl_get, tl_set, evn]; refine hk _ ?_; clear hk k; try show Sat _ _ _ _ _)
    (repeat refine Sat.seq ?_)
    refine Sat.cond_b rfl (fun h => ?_) (fun h => ?_)
    · have h1 : i < gs.length := by simp only [decide_eq_true_eq] at h; omega
      have e1 : IntKind.i64.wrap ((i : Int) + 1) = ((i + 1 : Nat) : Int) := by rw [w64 (by omega)]; omega
      obtain ⟨g, hg⟩ : ∃ g, g = gs.getD i default := ⟨_, rfl⟩
      have hgi : gs[i] = g := by rw [hg, List.getD_eq_getElem?_getD, List.getElem?_eq_getElem h1]; rfl
      have hgm : g ∈ gs := by rw [← hgi]; exact List.getElem_mem h1
      have hgl2 := hgr g hgm
      have q0 : fgS gs i 0 = .sl g.a g.rs.length g.cap 17 (resRd g.rs.toArray) := by rw [hg]; rfl
      have htk : gs.take (i + 1) = gs.take i ++ [g] := by rw [List.take_succ_eq_append_getElem h1, hgi]
      refine Sat.skip ?_
      simp only [thenK]
      (repeat refine Sat.seq ?_)
      refine Sat.block ?_
      (repeat refine Sat.seq ?_)
      (refine Sat.region_k fun k hk => ?_; simp -implicitDefEqProofs only [evr, id, seval, ev_one, res_one, fg_one, idn_one, idn_0, idn_1, idn_2, par_one, u32_one, resRow, res_ro, rExtract_tup, tl_get, tl_set, evn])
      simp only [q0]
      refine ⟨by omega, ?_⟩
      (refine hk _ ?_; clear hk k; try show Sat _ _ _ _ _)
      (repeat refine Sat.seq ?_)
      (refine Sat.region_k fun k hk => ?_; simp -implicitDefEqProofs only [evr, id, seval, ev_one, res_one, fg_one, idn_one, idn_0, idn_1, idn_2, par_one, u32_one, resRow, res_ro, rExtract_tup, tl_get, tl_set, evn]; refine hk _ ?_; clear hk k; try show Sat _ _ _ _ _)
      (repeat refine Sat.seq ?_)
      refine Sat.block ?_
      refine Sat.loop (ι := Nat × List Evd) (fun z => ⟨127, [(69, .i .i64 z.1), (68, .i .i64 g.rs.length), (67, .sl g.a g.rs.length g.cap 17 (resRd g.rs.toArray)), (12, .sl g.a g.rs.length g.cap 17 (resRd g.rs.toArray)), (63, .i .i64 i), (62, .i .i64 gs.length), (61, .sl ga gs.length gc 1 (fgS gs)), (5, .rm mb true [.u32] Y.length (sKey Y) (sValS Y)), (10, .mp 0 mb2)], [.mq mb2 false [.u32, .u32] z.2.length (evKey z.2) (evVal z.2)]⟩)
        (fun z => z.1 ≤ g.rs.length ∧ BestI Evd.pr evB (fun e => ((∃ g ∈ gs.take i, ∃ a ∈ g.rs, ∃ b ∈ g.rs, mW (seenV Y) a b e) ∨ ∃ a ∈ g.rs.take z.1, ∃ b ∈ g.rs, mW (seenV Y) a b e)) z.2 ∧ ∀ e ∈ z.2, e.ids.length ≤ 3) (fun z => g.rs.length - z.1) (0, Z)
        ⟨Nat.zero_le _, hB.congr fun x => ⟨.inl, fun h => h.elim id fun ⟨a, ha, _⟩ => (by cases ha)⟩, hZ⟩ (by simp -implicitDefEqProofs only [evr, id, seval, ev_one, res_one, fg_one, idn_one, idn_0, idn_1, idn_2, par_one, u32_one, resRow, res_ro, rExtract_tup, tl_get, tl_set, evl, evn]; first | done | exact fun i hi => ⟨rfl, rfl⟩ | rfl | exact ⟨rfl, rfl⟩) ?_
      clear hB hZ
      rintro ⟨j, Z⟩ ⟨hj, hB, hZ⟩
      simp only at hj hB hZ ⊢
      (repeat refine Sat.seq ?_)
      (refine Sat.region_k fun k hk => ?_; simp -implicitDefEqProofs only [evr, id, seval, ev_one, res_one, fg_one, idn_one, idn_0, idn_1, idn_2, par_one, u32_one, resRow, res_ro, rExtract_tup, tl_get, tl_set, evn]; refine hk _ ?_; clear hk k; try show Sat _ _ _ _ _)
      (repeat refine Sat.seq ?_)
      refine Sat.cond_b rfl (fun h => ?_) (fun h => ?_)
      · have h2 : j < g.rs.length := by simp only [decide_eq_true_eq] at h; omega
        have e2 : IntKind.i64.wrap ((j : Int) + 1) = ((j + 1 : Nat) : Int) := by rw [w64 (by omega)]; omega
        obtain ⟨a, ha⟩ : ∃ a, a = g.rs.toArray[j]! := ⟨_, rfl⟩
        have haj : g.rs[j] = a := by rw [ha, getB h2]
        have htk2 : g.rs.take (j + 1) = g.rs.take j ++ [a] := by rw [List.take_succ_eq_append_getElem h2, haj]
        refine Sat.skip ?_
        simp only [thenK]
        (repeat refine Sat.seq ?_)
        refine Sat.block ?_
        (repeat refine Sat.seq ?_)
        (refine Sat.region_k fun k hk => ?_; simp -implicitDefEqProofs only [evr, id, seval, ev_one, res_one, fg_one, idn_one, idn_0, idn_1, idn_2, par_one, u32_one, resRow, res_ro, rExtract_tup, tl_get, tl_set, evn])
        refine ⟨by omega, fun b14 => ?_⟩
        (refine hk _ ?_; clear hk k; try show Sat _ _ _ _ _)
        refine Sat.settleLast [.mq mb2 false [.u32, .u32] Z.length (evKey Z) (evVal Z)] 14 rfl ?_
        simp only [List.length_cons, List.length_nil, Nat.reduceAdd]
        (repeat refine Sat.seq ?_)
        (refine Sat.region_k fun k hk => ?_; simp -implicitDefEqProofs only [evr, id, seval, ev_one, res_one, fg_one, idn_one, idn_0, idn_1, idn_2, par_one, u32_one, resRow, res_ro, rExtract_tup, tl_get, tl_set, evn]; refine hk _ ?_; clear hk k; try show Sat _ _ _ _ _)
        (repeat refine Sat.seq ?_)
        refine Sat.block ?_
        refine Sat.loop (ι := Nat × List Evd) (fun z => ⟨127, [(75, .i .i64 z.1), (74, .i .i64 g.rs.length), (73, .sl g.a g.rs.length g.cap 17 (resRd g.rs.toArray)), (14, .el ⟨b14, 0, none⟩ 17 fun j => (Res.cs a).getD j default), (69, .i .i64 j), (68, .i .i64 g.rs.length), (67, .sl g.a g.rs.length g.cap 17 (resRd g.rs.toArray)), (12, .sl g.a g.rs.length g.cap 17 (resRd g.rs.toArray)), (63, .i .i64 i), (62, .i .i64 gs.length), (61, .sl ga gs.length gc 1 (fgS gs)), (5, .rm mb true [.u32] Y.length (sKey Y) (sValS Y)), (10, .mp 0 mb2)], [.mq mb2 false [.u32, .u32] z.2.length (evKey z.2) (evVal z.2)]⟩)
          (fun z => z.1 ≤ g.rs.length ∧ BestI Evd.pr evB (fun e => (((∃ g ∈ gs.take i, ∃ a ∈ g.rs, ∃ b ∈ g.rs, mW (seenV Y) a b e) ∨ ∃ a ∈ g.rs.take j, ∃ b ∈ g.rs, mW (seenV Y) a b e) ∨ ∃ b ∈ g.rs.take z.1, mW (seenV Y) a b e)) z.2 ∧ ∀ e ∈ z.2, e.ids.length ≤ 3) (fun z => g.rs.length - z.1) (0, Z)
          ⟨Nat.zero_le _, hB.congr fun x => ⟨.inl, fun h => h.elim id fun ⟨b, hb, _⟩ => (by cases hb)⟩, hZ⟩ (by
            simp -implicitDefEqProofs only [evr, id, seval, ev_one, res_one, fg_one, idn_one, idn_0, idn_1, idn_2, par_one, u32_one, resRow, res_ro, rExtract_tup, tl_get, tl_set, evl, evn]
            first | (rw [ha]; rfl) | exact ⟨by rw [ha]; rfl, fun i hi => ⟨rfl, rfl⟩⟩) ?_
        clear hB hZ
        rintro ⟨k, Z⟩ ⟨hk3, hB, hZ⟩
        simp only at hk3 hB hZ ⊢
        (repeat refine Sat.seq ?_)
        (refine Sat.region_k fun k hk => ?_; simp -implicitDefEqProofs only [evr, id, seval, ev_one, res_one, fg_one, idn_one, idn_0, idn_1, idn_2, par_one, u32_one, resRow, res_ro, rExtract_tup, tl_get, tl_set, evn]; refine hk _ ?_; clear hk k; try show Sat _ _ _ _ _)
        (repeat refine Sat.seq ?_)
        refine Sat.cond_b rfl (fun h => ?_) (fun h => ?_)
        · have h3 : k < g.rs.length := by simp only [decide_eq_true_eq] at h; omega
          have e3 : IntKind.i64.wrap ((k : Int) + 1) = ((k + 1 : Nat) : Int) := by rw [w64 (by omega)]; omega
          obtain ⟨b, hb2⟩ : ∃ b, b = g.rs.toArray[k]! := ⟨_, rfl⟩
          have hbk : g.rs[k] = b := by rw [hb2, getB h3]
          have htk3 : g.rs.take (k + 1) = g.rs.take k ++ [b] := by rw [List.take_succ_eq_append_getElem h3, hbk]
          refine Sat.skip ?_
          simp only [thenK]
          (repeat refine Sat.seq ?_)
          refine Sat.block ?_
          (repeat refine Sat.seq ?_)
          (refine Sat.region_k fun k hk => ?_; simp -implicitDefEqProofs only [evr, id, seval, ev_one, res_one, fg_one, idn_one, idn_0, idn_1, idn_2, par_one, u32_one, resRow, res_ro, rExtract_tup, tl_get, tl_set, evn])
          refine ⟨by omega, fun b16 => ?_⟩
          (refine hk _ ?_; clear hk k; try show Sat _ _ _ _ _)
          refine Sat.settleLast [.mq mb2 false [.u32, .u32] Z.length (evKey Z) (evVal Z)] 16 rfl ?_
          refine Sat.le (st' := ⟨127, [(16, .el ⟨b16, 0, none⟩ 17 fun j => (Res.cs b).getD j default), (75, .i .i64 k), (74, .i .i64 g.rs.length), (73, .sl g.a g.rs.length g.cap 17 (resRd g.rs.toArray)), (14, .el ⟨b14, 0, none⟩ 17 fun j => (Res.cs a).getD j default), (69, .i .i64 j), (68, .i .i64 g.rs.length), (67, .sl g.a g.rs.length g.cap 17 (resRd g.rs.toArray)), (12, .sl g.a g.rs.length g.cap 17 (resRd g.rs.toArray)), (63, .i .i64 i), (62, .i .i64 gs.length), (61, .sl ga gs.length gc 1 (fgS gs)), (5, .rm mb true [.u32] Y.length (sKey Y) (sValS Y)), (10, .mp 0 mb2)], [.mq mb2 false [.u32, .u32] Z.length (evKey Z) (evVal Z)]⟩) ?_ (by
            simp only [List.length_cons, List.length_nil]
            simp -implicitDefEqProofs only [evr, id, seval, ev_one, res_one, fg_one, idn_one, idn_0, idn_1, idn_2, par_one, u32_one, resRow, res_ro, rExtract_tup, tl_get, tl_set, evl, evn]
            first | (rw [hb2]; rfl) | exact ⟨by rw [hb2]; rfl, fun i hi => ⟨rfl, rfl⟩⟩)
          simp only [Res.cs]
          (repeat refine Sat.seq ?_)
          (refine Sat.region_k fun k hk => ?_; simp -implicitDefEqProofs only [evr, id, seval, ev_one, res_one, fg_one, idn_one, idn_0, idn_1, idn_2, par_one, u32_one, resRow, res_ro, rExtract_tup, tl_get, tl_set, evn])
          refine wcall_plain (folC F a b) rfl (by rintro _ rfl; exact ok_plain rfl) ?_
          rintro _ rfl
          simp -implicitDefEqProofs only [evr, id, seval, ev_one, res_one, fg_one, idn_one, idn_0, idn_1, idn_2, par_one, u32_one, resRow, res_ro, rExtract_tup, tl_get, tl_set, evn]
          (refine hk _ ?_; clear hk k; try show Sat _ _ _ _ _)
          (repeat refine Sat.seq ?_)
          refine Sat.cond_b rfl (fun h4 => ?_) (fun h4 => ?_)
          · have hno : folR a b = false := by simpa using h4
            refine Sat.exit ?_
            simp only [thenK, blockK, reduceIte]
            refine Sat.region_k fun kk hk => ?_
            simp -implicitDefEqProofs only [evr, id, seval, ev_one, res_one, fg_one, idn_one, idn_0, idn_1, idn_2, par_one, u32_one, resRow, res_ro, rExtract_tup, tl_get, tl_set, e3, evn]
            refine hk _ ?_
            simp only [thenK, blockK]
            refine ⟨(k + 1, Z), ⟨by simp only; omega, hB.congr fun x => ?_, hZ⟩, by simp only; omega, ?_⟩
            · simp only
              rw [htk3]
              refine or_congr Iff.rfl ⟨fun ⟨b', h8, h9⟩ => ⟨b', List.mem_append.2 (.inl h8), h9⟩, fun ⟨b', h8, h9⟩ => ?_⟩
              rcases List.mem_append.1 h8 with h8 | h8
              · exact ⟨b', h8, h9⟩
              · rw [List.mem_singleton] at h8
                subst h8
                rw [h9.1] at hno; cases hno
            · simp -implicitDefEqProofs only [evr, id, seval, ev_one, res_one, fg_one, idn_one, idn_0, idn_1, idn_2, par_one, u32_one, resRow, res_ro, rExtract_tup, tl_get, tl_set, evl, evn]
              first | done | exact fun i hi => ⟨rfl, rfl⟩ | rfl | exact ⟨rfl, rfl⟩
          have hfol : folR a b = true := by simpa using h4
          refine Sat.skip ?_
          simp only [thenK]
          (repeat refine Sat.seq ?_)
          (refine Sat.region_k fun k hk => ?_; simp -implicitDefEqProofs only [evr, id, seval, ev_one, res_one, fg_one, idn_one, idn_0, idn_1, idn_2, par_one, u32_one, resRow, res_ro, rExtract_tup, tl_get, tl_set, evn])
          refine wcall_new (matesC F b.from_) rfl rfl ?_
          rintro ra2 ty2 len2 rc2 sz2 rrd2 ⟨ma, mc, e⟩
          simp only [u32Row, Eng.Own.row.injEq] at e
          obtain ⟨rfl, rfl, rfl, rfl, rfl, rfl⟩ := e
          simp -implicitDefEqProofs only [evr, id, seval, ev_one, res_one, fg_one, idn_one, idn_0, idn_1, idn_2, par_one, u32_one, resRow, res_ro, rExtract_tup, tl_get, tl_set, evn]
          (refine hk _ ?_; clear hk k; try show Sat _ _ _ _ _)
          refine Sat.settleLastRow [.mq mb2 false [.u32, .u32] Z.length (evKey Z) (evVal Z)] 86 rfl ?_
          have hml : (msV b.from_).length ≤ 2 := by unfold msV; split <;> simp
          refine Sat.block ?_
          refine Sat.loop (ι := Nat × List Evd) (fun z => ⟨127, [(88, .i .i64 z.1), (87, .i .i64 (msV b.from_).length), (86, .sl ra2 (msV b.from_).length rc2 1 (u32Rd (msV b.from_))), (16, .el ⟨b16, 0, none⟩ 17 fun j => (Res.cs b).getD j default), (75, .i .i64 k), (74, .i .i64 g.rs.length), (73, .sl g.a g.rs.length g.cap 17 (resRd g.rs.toArray)), (14, .el ⟨b14, 0, none⟩ 17 fun j => (Res.cs a).getD j default), (69, .i .i64 j), (68, .i .i64 g.rs.length), (67, .sl g.a g.rs.length g.cap 17 (resRd g.rs.toArray)), (12, .sl g.a g.rs.length g.cap 17 (resRd g.rs.toArray)), (63, .i .i64 i), (62, .i .i64 gs.length), (61, .sl ga gs.length gc 1 (fgS gs)), (5, .rm mb true [.u32] Y.length (sKey Y) (sValS Y)), (10, .mp 0 mb2)], [.mq mb2 false [.u32, .u32] z.2.length (evKey z.2) (evVal z.2)]⟩)
            (fun z => z.1 ≤ (msV b.from_).length ∧ BestI Evd.pr evB (fun e => ((((∃ g ∈ gs.take i, ∃ a ∈ g.rs, ∃ b ∈ g.rs, mW (seenV Y) a b e) ∨ ∃ a ∈ g.rs.take j, ∃ b ∈ g.rs, mW (seenV Y) a b e) ∨ ∃ b ∈ g.rs.take k, mW (seenV Y) a b e) ∨ ∃ m ∈ (msV b.from_).take z.1, m ≠ a.from_ ∧ ∃ d ∈ seenV Y m, MatE a.idn b.idn d a.from_ m e)) z.2 ∧ ∀ e ∈ z.2, e.ids.length ≤ 3) (fun z => (msV b.from_).length - z.1) (0, Z)
            ⟨Nat.zero_le _, hB.congr fun x => ⟨.inl, fun h => h.elim id fun ⟨m, hm, _⟩ => (by cases hm)⟩, hZ⟩ (by simp only [Res.cs]; simp -implicitDefEqProofs only [evr, id, seval, ev_one, res_one, fg_one, idn_one, idn_0, idn_1, idn_2, par_one, u32_one, resRow, res_ro, rExtract_tup, tl_get, tl_set, evl, evn]; first | done | exact fun i hi => ⟨rfl, rfl⟩ | rfl | exact ⟨rfl, rfl⟩) ?_
          clear hB hZ
          rintro ⟨q, Z⟩ ⟨hq, hB, hZ⟩
          simp only at hq hB hZ ⊢
          (repeat refine Sat.seq ?_)
          (refine Sat.region_k fun k hk => ?_; simp -implicitDefEqProofs only [evr, id, seval, ev_one, res_one, fg_one, idn_one, idn_0, idn_1, idn_2, par_one, u32_one, resRow, res_ro, rExtract_tup, tl_get, tl_set, evn]; refine hk _ ?_; clear hk k; try show Sat _ _ _ _ _)
          (repeat refine Sat.seq ?_)
          refine Sat.cond_b rfl (fun h => ?_) (fun h => ?_)
          · have h5 : q < (msV b.from_).length := by simp only [decide_eq_true_eq] at h; omega
            have e5 : IntKind.i64.wrap ((q : Int) + 1) = ((q + 1 : Nat) : Int) := by rw [w64 (by omega)]; omega
            obtain ⟨m, hm⟩ : ∃ m, m = (msV b.from_).getD q 0 := ⟨_, rfl⟩
            have hmq : (msV b.from_)[q] = m := by rw [hm, List.getD_eq_getElem?_getD, List.getElem?_eq_getElem h5]; rfl
            have htk4 : (msV b.from_).take (q + 1) = (msV b.from_).take q ++ [m] := by rw [List.take_succ_eq_append_getElem h5, hmq]
            have q8 : u32Rd (msV b.from_) q 0 = .i .u32 m := by rw [hm]; rfl
            refine Sat.skip ?_
            simp only [thenK]
            (repeat refine Sat.seq ?_)
            refine Sat.block ?_
            (repeat refine Sat.seq ?_)
            (refine Sat.region_k fun k hk => ?_; simp -implicitDefEqProofs only [evr, id, seval, ev_one, res_one, fg_one, idn_one, idn_0, idn_1, idn_2, par_one, u32_one, resRow, res_ro, rExtract_tup, tl_get, tl_set, evn])
            simp only [q8]
            refine ⟨by omega, ?_⟩
            (refine hk _ ?_; clear hk k; try show Sat _ _ _ _ _)
            simp only [Res.cs]
            (repeat refine Sat.seq ?_)
            (refine Sat.region_k fun k hk => ?_; simp -implicitDefEqProofs only [evr, id, seval, ev_one, res_one, fg_one, idn_one, idn_0, idn_1, idn_2, par_one, u32_one, resRow, res_ro, rExtract_tup, tl_get, tl_set, evn]; refine hk _ ?_; clear hk k; try show Sat _ _ _ _ _)
            (repeat refine Sat.seq ?_)
            refine Sat.cond_b rfl (fun h6 => ?_) (fun h6 => ?_)
            · have hma : m ≠ a.from_ := by simpa using h6
              obtain ⟨oa, oc, ids, hids, hlook1, hlook2⟩ : ∃ (oa : Option Addr) (oc : Nat) (ids : List Idn), ids = seenV Y m ∧ (∀ n, n < Y.length → sKey Y n = [m] → sValS Y n = .sl oa ids.length oc 3 (idnRd ids.toArray)) ∧ ((∀ n, n < Y.length → sKey Y n ≠ [m]) → SV.sl none 0 0 3 (idnRd #[]) = .sl oa ids.length oc 3 (idnRd ids.toArray)) := by
                by_cases hex : ∃ n, n < Y.length ∧ sKey Y n = [m]
                · obtain ⟨n, hn, hkn⟩ := hex
                  have hk2 : (Y[n]).k = m := by
                    unfold sKey at hkn
                    rw [List.getD_eq_getElem?_getD, List.getElem?_eq_getElem hn] at hkn
                    simpa using hkn
                  have hY : Y.getD n default = Y[n] := by rw [List.getD_eq_getElem?_getD, List.getElem?_eq_getElem hn]; rfl
                  refine ⟨(Y[n]).a, (Y[n]).cap, (Y[n]).ids, by rw [← hk2, seenV_at hYn hn], fun n2 hn2 hkn2 => ?_, fun hno => absurd hkn (hno n hn)⟩
                  obtain rfl := sKey_inj hYn hn2 hn (hkn2.trans hkn.symm)
                  unfold sValS
                  rw [hY]
                · refine ⟨none, 0, [], (seenV_none fun i hi e => hex ⟨i, hi, by unfold sKey; rw [List.getD_eq_getElem?_getD, List.getElem?_eq_getElem hi]; simpa using e⟩).symm, fun n hn hkn => absurd ⟨n, hn, hkn⟩ hex, fun _ => rfl⟩
              have hidl : ids.length ≤ 512 ∧ ids.Pairwise fun x y => idnLt y x = false := by
                rw [hids]
                by_cases hex : ∃ n, ∃ hn : n < Y.length, (Y[n]).k = m
                · obtain ⟨n, hn, hk2⟩ := hex
                  rw [← hk2, seenV_at hYn hn]
                  have h8 := hYlen n hn
                  have h9 := hall n hn
                  rw [List.getD_eq_getElem?_getD, List.getElem?_eq_getElem hn] at h8 h9
                  exact ⟨h8, h9⟩
                · rw [seenV_none fun i hi e => hex ⟨i, hi, e⟩]
                  exact ⟨Nat.zero_le _, .nil⟩
              try simp only [Res.cs]
              (repeat refine Sat.seq ?_)
              refine Sat.atF (ι := List Evd) (fun Z2 => ⟨127, [(88, .i .i64 q), (87, .i .i64 (msV b.from_).length), (86, .sl ra2 (msV b.from_).length rc2 1 (u32Rd (msV b.from_))), (16, .el ⟨b16, 0, none⟩ 17 fun j => (Res.cs b).getD j default), (75, .i .i64 k), (74, .i .i64 g.rs.length), (73, .sl g.a g.rs.length g.cap 17 (resRd g.rs.toArray)), (14, .el ⟨b14, 0, none⟩ 17 fun j => (Res.cs a).getD j default), (69, .i .i64 j), (68, .i .i64 g.rs.length), (67, .sl g.a g.rs.length g.cap 17 (resRd g.rs.toArray)), (12, .sl g.a g.rs.length g.cap 17 (resRd g.rs.toArray)), (63, .i .i64 i), (62, .i .i64 gs.length), (61, .sl ga gs.length gc 1 (fgS gs)), (5, .rm mb true [.u32] Y.length (sKey Y) (sValS Y)), (10, .mp 0 mb2)], [.mq mb2 false [.u32, .u32] Z2.length (evKey Z2) (evVal Z2)]⟩)
                (fun Z2 => BestI Evd.pr evB (fun e => ((((∃ g ∈ gs.take i, ∃ a ∈ g.rs, ∃ b ∈ g.rs, mW (seenV Y) a b e) ∨ ∃ a ∈ g.rs.take j, ∃ b ∈ g.rs, mW (seenV Y) a b e) ∨ ∃ b ∈ g.rs.take k, mW (seenV Y) a b e) ∨ ∃ m ∈ (msV b.from_).take q, m ≠ a.from_ ∧ ∃ d ∈ seenV Y m, MatE a.idn b.idn d a.from_ m e) ∨ ∃ d ∈ ids, MatE a.idn b.idn d a.from_ m e) Z2 ∧ ∀ e ∈ Z2, e.ids.length ≤ 3) ?_ ?_
              · (refine Sat.region_tree (.keep [0, 5, 6, 8, 9, 10, 1, 3, 7] [2, 4, 11] (.alt 2 (.alt 4 (.one 11 (.one 12 .done)) (.alt 11 (.one 4 (.one 12 .done)) .none)) (.alt 11 (.one 2 (.one 4 (.one 12 .done))) .none))) (by kernel_rfl) (by kernel_rfl) (fun _ _ h => h) fun k hk => ?_; simp only [WOT, List.map_cons, List.map_nil, List.getD_cons_zero, List.getD_cons_succ]; simp -implicitDefEqProofs only [evr, id, seval, ev_one, res_one, fg_one, idn_one, idn_0, idn_1, idn_2, par_one, u32_one, resRow, res_ro, rExtract_tup, tl_get, tl_set, WOT, evn])
                repeat' (first
                  | (with_reducible refine And.intro ?_ ?_)
                  | rfl
                  | (refine wcall_plain (identC F a) rfl (by rintro _ rfl; exact idAg_ok _) ?_; rintro _ rfl; simp only [idAg, evr, id, seval, ev_one, res_one, fg_one, idn_one, idn_0, idn_1, idn_2, par_one, u32_one, List.append_nil, Int.toNat_zero, Nat.sub_self, Int.reduceToNat, resRow, res_ro, rExtract_tup, tl_get, tl_set])
                  | (refine wcall_plain (identC F b) rfl (by rintro _ rfl; exact idAg_ok _) ?_; rintro _ rfl; simp only [idAg, evr, id, seval, ev_one, res_one, fg_one, idn_one, idn_0, idn_1, idn_2, par_one, u32_one, List.append_nil, Int.toNat_zero, Nat.sub_self, Int.reduceToNat, resRow, res_ro, rExtract_tup, tl_get, tl_set])
                  | (refine lookMqU (l := [m]) hT (mqIn_rm (m := .tmp 106) rfl) rfl rfl (.sl none 0 0 3 (idnRd #[])) (by kernel_rfl) (fun R w => ⟨Nat.le_refl _, Nat.zero_le _, .inl rfl⟩) (show 108 < 127 by decide) (.sl oa ids.length oc 3 (idnRd ids.toArray)) hlook1 hlook2 ?_
                     simp -implicitDefEqProofs only [evr, id, seval, ev_one, res_one, fg_one, idn_one, idn_0, idn_1, idn_2, par_one, u32_one, resRow, res_ro, rExtract_tup, tl_get, tl_set, evn])
                  | (refine wcall_mut 0 (improveC F mb2 Z a.idn b.idn a.from_ m oa oc ids (by omega) hidl.2 hZ _ hB) rfl rfl ?_
                     rintro _ o1 ⟨rfl, Z2, hB2, hZ2, rfl⟩
                     simp -implicitDefEqProofs only [evr, id, seval, ev_one, res_one, fg_one, idn_one, idn_0, idn_1, idn_2, par_one, u32_one, resRow, res_ro, rExtract_tup, tl_get, tl_set, evn]))
                all_goals
                  refine hk _ ?_
                  simp only [thenK]
                  refine ⟨Z2, ⟨hB2, hZ2⟩, ?_⟩
                  simp only [Res.cs]
                  simp -implicitDefEqProofs only [evr, id, seval, ev_one, res_one, fg_one, idn_one, idn_0, idn_1, idn_2, par_one, u32_one, resRow, res_ro, rExtract_tup, tl_get, tl_set, evl, evn]
                  first | done | exact fun i hi => ⟨rfl, rfl⟩ | rfl | exact ⟨rfl, rfl⟩
              rintro Z2 ⟨hB2, hZ2⟩
              simp only [thenK, blockK]
              refine Sat.region_k fun kk hk => ?_
              simp -implicitDefEqProofs only [evr, id, seval, ev_one, res_one, fg_one, idn_one, idn_0, idn_1, idn_2, par_one, u32_one, resRow, res_ro, rExtract_tup, tl_get, tl_set, e5, evn]
              refine hk _ ?_
              simp only [thenK, blockK]
              refine ⟨(q + 1, Z2), ⟨by simp only; omega, hB2.congr fun x => ?_, hZ2⟩, by simp only; omega, ?_⟩
              · simp only
                rw [htk4, or_assoc]
                refine or_congr Iff.rfl ⟨fun h => ?_, fun ⟨m', h8, h9⟩ => ?_⟩
                · rcases h with ⟨m', h8, h9⟩ | ⟨d, h8, h9⟩
                  · exact ⟨m', List.mem_append.2 (.inl h8), h9⟩
                  · exact ⟨m, List.mem_append.2 (.inr (List.mem_singleton.2 rfl)), hma, d, by rw [← hids]; exact h8, h9⟩
                · rcases List.mem_append.1 h8 with h8 | h8
                  · exact .inl ⟨m', h8, h9⟩
                  · rw [List.mem_singleton] at h8
                    subst h8
                    obtain ⟨_, d, h7, h8⟩ := h9
                    exact .inr ⟨d, by rw [hids]; exact h7, h8⟩
              · simp -implicitDefEqProofs only [evr, id, seval, ev_one, res_one, fg_one, idn_one, idn_0, idn_1, idn_2, par_one, u32_one, resRow, res_ro, rExtract_tup, tl_get, tl_set, evl, evn]
                first | done | exact fun i hi => ⟨rfl, rfl⟩ | rfl | exact ⟨rfl, rfl⟩
            · have hma : m = a.from_ := by simpa using h6
              refine Sat.skip ?_
              simp only [thenK, blockK]
              refine Sat.region_k fun kk hk => ?_
              simp -implicitDefEqProofs only [evr, id, seval, ev_one, res_one, fg_one, idn_one, idn_0, idn_1, idn_2, par_one, u32_one, resRow, res_ro, rExtract_tup, tl_get, tl_set, e5, evn]
              refine hk _ ?_
              simp only [thenK, blockK]
              refine ⟨(q + 1, Z), ⟨by simp only; omega, hB.congr fun x => ?_, hZ⟩, by simp only; omega, ?_⟩
              · simp only
                rw [htk4]
                refine or_congr Iff.rfl ⟨fun ⟨m', h8, h9⟩ => ⟨m', List.mem_append.2 (.inl h8), h9⟩, fun ⟨m', h8, h9⟩ => ?_⟩
                rcases List.mem_append.1 h8 with h8 | h8
                · exact ⟨m', h8, h9⟩
                · rw [List.mem_singleton] at h8
                  rw [h8] at h9
                  exact absurd hma h9.1
              · simp only [Res.cs]
                simp -implicitDefEqProofs only [evr, id, seval, ev_one, res_one, fg_one, idn_one, idn_0, idn_1, idn_2, par_one, u32_one, resRow, res_ro, rExtract_tup, tl_get, tl_set, evl, evn]
                first | done | exact fun i hi => ⟨rfl, rfl⟩ | rfl | exact ⟨rfl, rfl⟩
          have h5 : q = (msV b.from_).length := by simp only [decide_eq_false_iff_not] at h; omega
          subst h5
          refine Sat.exit ?_
          simp only [thenK, blockK, reduceIte]
          refine Sat.region_k fun kk hk => ?_
          simp -implicitDefEqProofs only [evr, id, seval, ev_one, res_one, fg_one, idn_one, idn_0, idn_1, idn_2, par_one, u32_one, resRow, res_ro, rExtract_tup, tl_get, tl_set, e3, evn]
          refine hk _ ?_
          simp only [thenK, blockK]
          refine ⟨(k + 1, Z), ⟨by simp only; omega, hB.congr fun x => ?_, hZ⟩, by simp only; omega, ?_⟩
          · simp only
            rw [htk3, List.take_length, or_assoc]
            refine or_congr Iff.rfl ⟨fun h => ?_, fun ⟨b', h8, h9⟩ => ?_⟩
            · rcases h with ⟨b', h8, h9⟩ | h
              · exact ⟨b', List.mem_append.2 (.inl h8), h9⟩
              · exact ⟨b, List.mem_append.2 (.inr (List.mem_singleton.2 rfl)), hfol, h⟩
            · rcases List.mem_append.1 h8 with h8 | h8
              · exact .inl ⟨b', h8, h9⟩
              · rw [List.mem_singleton] at h8
                subst h8
                exact .inr h9.2
          · simp -implicitDefEqProofs only [evr, id, seval, ev_one, res_one, fg_one, idn_one, idn_0, idn_1, idn_2, par_one, u32_one, resRow, res_ro, rExtract_tup, tl_get, tl_set, evl, evn]
            first | done | exact fun i hi => ⟨rfl, rfl⟩ | rfl | exact ⟨rfl, rfl⟩
        have h3 : k = g.rs.length := by simp only [decide_eq_false_iff_not] at h; omega
        subst h3
        refine Sat.exit ?_
        simp only [thenK, blockK, reduceIte]
        refine Sat.region_k fun kk hk => ?_
        simp -implicitDefEqProofs only [evr, id, seval, ev_one, res_one, fg_one, idn_one, idn_0, idn_1, idn_2, par_one, u32_one, resRow, res_ro, rExtract_tup, tl_get, tl_set, e2, evn]
        refine hk _ ?_
        simp only [thenK, blockK]
        refine ⟨(j + 1, Z), ⟨by simp only; omega, hB.congr fun x => ?_, hZ⟩, by simp only; omega, ?_⟩
        · simp only
          rw [htk2, List.take_length, or_assoc]
          refine or_congr Iff.rfl ⟨fun h => ?_, fun ⟨a', h8, h9⟩ => ?_⟩
          · rcases h with ⟨a', h8, h9⟩ | h
            · exact ⟨a', List.mem_append.2 (.inl h8), h9⟩
            · exact ⟨a, List.mem_append.2 (.inr (List.mem_singleton.2 rfl)), h⟩
          · rcases List.mem_append.1 h8 with h8 | h8
            · exact .inl ⟨a', h8, h9⟩
            · rw [List.mem_singleton] at h8
              subst h8
              exact .inr h9
        · simp -implicitDefEqProofs only [evr, id, seval, ev_one, res_one, fg_one, idn_one, idn_0, idn_1, idn_2, par_one, u32_one, resRow, res_ro, rExtract_tup, tl_get, tl_set, evl, evn]
          first | done | exact fun i hi => ⟨rfl, rfl⟩ | rfl | exact ⟨rfl, rfl⟩
      have h2 : j = g.rs.length := by simp only [decide_eq_false_iff_not] at h; omega
      subst h2
      refine Sat.exit ?_
      simp only [thenK, blockK, reduceIte]
      refine Sat.region_k fun kk hk => ?_
      simp -implicitDefEqProofs only [evr, id, seval, ev_one, res_one, fg_one, idn_one, idn_0, idn_1, idn_2, par_one, u32_one, resRow, res_ro, rExtract_tup, tl_get, tl_set, e1, evn]
      refine hk _ ?_
      simp only [thenK, blockK]
      refine ⟨(i + 1, Z), ⟨by simp only; omega, hB.congr fun x => ?_, hZ⟩, by simp only; omega, ?_⟩
      · simp only
        rw [htk, List.take_length]
        refine ⟨fun h => ?_, fun ⟨g', h8, h9⟩ => ?_⟩
        · rcases h with ⟨g', h8, h9⟩ | h
          · exact ⟨g', List.mem_append.2 (.inl h8), h9⟩
          · exact ⟨g, List.mem_append.2 (.inr (List.mem_singleton.2 rfl)), h⟩
        · rcases List.mem_append.1 h8 with h8 | h8
          · exact .inl ⟨g', h8, h9⟩
          · rw [List.mem_singleton] at h8
            subst h8
            exact .inr h9
      · simp -implicitDefEqProofs only [evr, id, seval, ev_one, res_one, fg_one, idn_one, idn_0, idn_1, idn_2, par_one, u32_one, resRow, res_ro, rExtract_tup, tl_get, tl_set, evl, evn]
        first | done | exact fun i hi => ⟨rfl, rfl⟩ | rfl | exact ⟨rfl, rfl⟩
    have h1 : i = gs.length := by simp only [decide_eq_false_iff_not] at h; omega
    subst h1
    rw [List.take_length] at hB
    refine Sat.exit ?_
    simp only [thenK, blockK, reduceIte]
    have hB2 : BestI Evd.pr evB (MatC xs) Z := hB.congr fun e => by
      rw [← flows_mat hfl hV]
      exact ⟨fun ⟨g, h8, a, h5, b, h6, h7, h9⟩ => ⟨g.rs, List.mem_map.2 ⟨g, h8, rfl⟩, a, h5, b, h6, h7, h9⟩, fun ⟨g, h8, a, h5, b, h6, h7, h9⟩ => by
        obtain ⟨g', h4, rfl⟩ := List.mem_map.1 h8
        exact ⟨g', h4, a, h5, b, h6, h7, h9⟩⟩
    have hZl := matC_len hl hB2
    clear hB
    refine Sat.settleMap 10 rfl rfl ?_
    simp only [List.set_cons_zero]
    (repeat refine Sat.seq ?_)
    (refine Sat.region_k fun k hk => ?_; simp -implicitDefEqProofs only [evr, id, seval, ev_one, res_one, fg_one, idn_one, idn_0, idn_1, idn_2, par_one, u32_one, resRow, res_ro, rExtract_tup, tl_get, tl_set, evn]; refine hk _ ?_; clear hk k; try show Sat _ _ _ _ _)
    (repeat refine Sat.seq ?_)
    refine Sat.region_k fun kk hk => ?_
    simp -implicitDefEqProofs only [evr, id, seval, ev_one, res_one, fg_one, idn_one, idn_0, idn_1, idn_2, par_one, u32_one, resRow, res_ro, rExtract_tup, tl_get, tl_set, evn]
    refine rangeMq hT2 (mqIn_rm rfl) (show 115 < 127 by decide) fun it2 => ?_
    simp -implicitDefEqProofs only [evr, id, seval, ev_one, res_one, fg_one, idn_one, idn_0, idn_1, idn_2, par_one, u32_one, resRow, res_ro, rExtract_tup, tl_get, tl_set, evn]
    refine hk _ ?_
    clear hk kk
    simp only [thenK]
    refine Sat.adopt 19 32 4 (evRd []) rfl ?_
    have hkz : ∀ i, (parAg (Z.getD i default).pr).den = keyV false [.u32, .u32] (evKey Z i) := fun i => par_den _
    refine Sat.block ?_
    refine Sat.loop (ι := List Nat × Option Addr × Nat) (fun z => ⟨127, [(115, .v (.pointer (some ⟨it2, 0, none⟩))), (19, .os 2 z.2.1 z.1.length z.2.2), (10, .rm mb2 false [.u32, .u32] Z.length (evKey Z) (evVal Z))], [.gone, .res it2 (IterMap it2 mb2 Z.length z.1), .row z.2.1 32 z.1.length z.2.2 4 (evRd (z.1.map fun i => Z.getD i default))]⟩)
      (fun z => z.1.Nodup ∧ ∀ i ∈ z.1, i < Z.length) (fun z => Z.length - z.1.length) ([], none, 0) ⟨List.nodup_nil, fun i hi => (by cases hi)⟩ (by
        simp only [List.map_nil, List.length_nil]
        simp -implicitDefEqProofs only [evr, id, seval, ev_one, res_one, fg_one, idn_one, idn_0, idn_1, idn_2, par_one, u32_one, resRow, res_ro, rExtract_tup, tl_get, tl_set, evl, evn]
        try exact own_le _) ?_
    clear hnd hsl hsln
    rintro ⟨seen, oa, oc⟩ ⟨hnd, hsl⟩
    simp only at hnd hsl ⊢
    have hsln := seen_lenA hnd hsl
    (repeat refine Sat.seq ?_)
    refine Sat.region_k fun kk hk => ?_
    simp -implicitDefEqProofs only [evr, id, seval, ev_one, res_one, fg_one, idn_one, idn_0, idn_1, idn_2, par_one, u32_one, resRow, res_ro, rExtract_tup, tl_get, tl_set, evn]
    refine nextMq (oid := 1) rfl rfl rfl (mqIn_rm (m := .tmp 10) rfl) (fun i => parAg (Z.getD i default).pr) (fun i _ => hkz i) (fun i R w => par_ok _ R w) (show 116 < 127 by decide) (fun i hi hs => ?_) (fun ha => ?_)
    · simp -implicitDefEqProofs only [evr, id, seval, ev_one, res_one, fg_one, idn_one, idn_0, idn_1, idn_2, par_one, u32_one, resRow, res_ro, rExtract_tup, tl_get, tl_set, evn]
      refine hk _ ?_
      clear hk kk
      have hnd2 : (seen ++ [i]).Nodup := by
        rw [List.nodup_append]
        exact ⟨hnd, by simp, fun a ha b hb => by rw [List.mem_singleton] at hb; subst hb; exact fun e => hs (e ▸ ha)⟩
      have hsl2 : ∀ j ∈ seen ++ [i], j < Z.length := fun j hj => by
        rcases List.mem_append.1 hj with hj | hj
        · exact hsl j hj
        · rw [List.mem_singleton] at hj; subst hj; exact hi
      have hlen := seen_lenA hnd2 hsl2
      rw [List.length_append, List.length_singleton] at hlen
      obtain ⟨y, hy⟩ : ∃ y, y = Z.getD i default := ⟨_, rfl⟩
      have hmap : (seen ++ [i]).map (fun i => Z.getD i default) = seen.map (fun i => Z.getD i default) ++ [y] := by rw [List.map_append, hy]; rfl
      simp only [thenK]
      (repeat refine Sat.seq ?_)
      refine Sat.cond_tt rfl ?_
      refine Sat.skip ?_
      simp only [thenK]
      (repeat refine Sat.seq ?_)
      refine Sat.block ?_
      (repeat refine Sat.seq ?_)
      refine Sat.region_k fun kk hk => ?_
      simp -implicitDefEqProofs only [evr, id, seval, ev_one, res_one, fg_one, idn_one, idn_0, idn_1, idn_2, par_one, u32_one, resRow, res_ro, rExtract_tup, tl_get, tl_set, evn]
      refine entryIterMq (oid := 1) (seen := seen) rfl rfl hi (mqIn_rm (m := .tmp 10) rfl) (fun i => parAg (Z.getD i default).pr) (hkz i) (fun R w => par_ok _ R w) (show 118 < 127 by decide) ?_
      have hyv : evVal Z i = .agg 4 fun j => (Evd.cs y).getD j default := by rw [hy]; rfl
      rw [hyv]
      simp only [parAg, Par.cs, Evd.cs, evr, id, seval, ev_one, res_one, fg_one, idn_one, idn_0, idn_1, idn_2, par_one, u32_one, List.append_nil, Int.toNat_zero, Nat.sub_self, Int.reduceToNat, resRow, res_ro, rExtract_tup, tl_get, tl_set]
      intro b18
      refine hk _ ?_
      clear hk kk
      simp only [thenK]
      refine Sat.settleLast [.gone, .res it2 (IterMap it2 mb2 Z.length (seen ++ [i])), .row oa 32 seen.length oc 4 (evRd (seen.map fun i => Z.getD i default))] 21 rfl ?_
      simp only [List.length_cons, List.length_nil, Nat.reduceAdd]
      refine Sat.region_k fun kk hk => ?_
      simp -implicitDefEqProofs only [evr, id, seval, ev_one, res_one, fg_one, idn_one, idn_0, idn_1, idn_2, par_one, u32_one, resRow, res_ro, rExtract_tup, tl_get, tl_set, evn]
      refine fun b0 => ⟨⟨by unfold maxLen; omega, by omega⟩, fun a2 c2 => hk _ ?_⟩
      clear hk kk
      simp only [thenK, blockK]
      refine ⟨(seen ++ [i], a2, c2), ⟨hnd2, hsl2⟩, by simp only [List.length_append, List.length_singleton]; omega, ?_⟩
      simp only [hmap, List.length_append, List.length_singleton]
      simp -implicitDefEqProofs only [evr, id, seval, ev_one, res_one, fg_one, idn_one, idn_0, idn_1, idn_2, par_one, u32_one, resRow, res_ro, rExtract_tup, tl_get, tl_set, evl, evn]
      have h9 := evd_app (ys := seen.map fun i => Z.getD i default) (x := y) rfl
      rw [List.length_map] at h9
      first | exact h9 | exact ⟨own_le _, h9⟩
    · simp -implicitDefEqProofs only [evr, id, seval, ev_one, res_one, fg_one, idn_one, idn_0, idn_1, idn_2, par_one, u32_one, resRow, res_ro, rExtract_tup, tl_get, tl_set, evn]
      refine hk _ ?_
      clear hk kk
      simp only [thenK]
      (repeat refine Sat.seq ?_)
      refine Sat.cond_ff rfl ?_
      refine Sat.exit ?_
      simp only [thenK, blockK, reduceIte]
      obtain ⟨L, hL⟩ : ∃ L, L = seen.map fun i => Z.getD i default := ⟨_, rfl⟩
      have hLp : L.Perm Z := by rw [hL]; exact seen_permA hnd hsl ha
      obtain ⟨M, hM⟩ := evs_of (L := L) fun e he => by have := hZ e (hLp.mem_iff.1 he); omega
      have hLl : seen.length = M.length := by
        have h8 := congrArg List.length hM
        rw [List.length_map] at h8
        rw [h8, hL, List.length_map]
      have hMl : M.length ≤ 262144 := by rw [← hLl]; omega
      have hrd : evRd L = evsRd M.toArray := by rw [evs_rd]; simp only []; rw [hM]
      rw [← hL, hLl, hrd]
      (repeat refine Sat.seq ?_)
      refine Sat.region_k fun kk hk => ?_
      simp -implicitDefEqProofs only [evr, id, seval, ev_one, res_one, fg_one, idn_one, idn_0, idn_1, idn_2, par_one, u32_one, resRow, res_ro, rExtract_tup, tl_get, tl_set, evn]
      refine wcall_mut 2 (evsSortC F evsLt_swo evsCmp1 oa oc M.length (by omega) M.toArray (by simp)) rfl rfl ?_
      rintro r o1 ⟨rfl, d', hd', ⟨hperm, hsort⟩, rfl⟩
      simp only [evsRow, evr, id, seval, ev_one, res_one, fg_one, idn_one, idn_0, idn_1, idn_2, par_one, u32_one, List.append_nil, Int.toNat_zero, Nat.sub_self, Int.reduceToNat, resRow, res_ro, rExtract_tup, tl_get, tl_set]
      refine hk _ ?_
      clear hk kk
      simp only [thenK]
      obtain ⟨hp2, hs2⟩ := evs_sorted hd' hperm hsort
      have hes : MatOf xs (d'.toList.map Evs.e) := mat_sorted hB2 hZ (((hp2.map _).trans (by rw [hM])).trans hLp) hs2
      have hdl : M.length = (d'.toList.map Evs.e).length := by rw [List.length_map, Array.length_toList]; exact hd'.symm
      rw [evs_rd d']
      (repeat refine Sat.seq ?_)
      (refine Sat.region_k fun k hk => ?_; simp -implicitDefEqProofs only [evr, id, seval, ev_one, res_one, fg_one, idn_one, idn_0, idn_1, idn_2, par_one, u32_one, resRow, res_ro, rExtract_tup, tl_get, tl_set, evn]; refine hk _ ?_; clear hk k; try show Sat _ _ _ _ _)
      refine Sat.ret ?_
      simp only [Tryz.results14, evr, id, seval, ev_one, res_one, fg_one, idn_one, idn_0, idn_1, idn_2, par_one, u32_one, List.append_nil, Int.toNat_zero, Nat.sub_self, Int.reduceToNat, resRow, res_ro, rExtract_tup, tl_get, tl_set]
      exact .inr ⟨hb, _, _, d'.toList.map Evs.e, hes, by omega, by rw [hdl]⟩
end Go.Proofs.YtfeiiadligkamaaGreat


/- The reference's Same (exclusions), and exclusion.Holds, by the evaluator. -/
namespace Go.Proofs.YtfeiiadligkamaaGreat
open Go.Sort Eng
end Go.Proofs.YtfeiiadligkamaaGreat


/- exclusion.Holds, and whether a list has an address, by the evaluator. -/
namespace Go.Proofs.YtfeiiadligkamaaGreat
open Go.Sort Eng
set_option maxRecDepth 100000 in
theorem indexAdC (F : Frm) (a : Option Addr) (cap : Nat) (l : List Int) (v : Int) (hl : l.length ≤ 1000000000) :
  Contract F Tryz.prog 109 [.sl a l.length cap 1 (u32Rd l), .i .u32 v] (fun r => (r = .i .i64 (-1) ∧ ∀ q, q < l.length → l.getD q 0 ≠ v) ∨ ∃ i : Nat, i < l.length ∧ l.getD i 0 = v ∧ r = .i .i64 i) := by
 refine contract_of Tryz.func109 rfl (by kernel_rfl) ?_
 simp only [Tryz.ntmps109, argEnv]
 (repeat refine Sat.seq ?_)
 (refine Sat.region_k fun k hk => ?_; simp -implicitDefEqProofs only [evr, id, seval, exc_one, res_one, par_one, idn_one, idn_0, idn_1, idn_2, u32_one, resRow, res_ro, rExtract_tup, evn]; refine hk _ ?_; clear hk k; try show Sat _ _ _ _ _)
 (repeat refine Sat.seq ?_)
 (refine Sat.region_k fun k hk => ?_; simp -implicitDefEqProofs only [evr, id, seval, exc_one, res_one, par_one, idn_one, idn_0, idn_1, idn_2, u32_one, resRow, res_ro, rExtract_tup, evn]; refine hk _ ?_; clear hk k; try show Sat _ _ _ _ _)
 (repeat refine Sat.seq ?_)
 refine Sat.block ?_
 refine Sat.loop (ι := Nat) (fun i => ⟨19, [(8, .i .i64 i), (7, .i .i64 l.length), (0, .sl a l.length cap 1 (u32Rd l)), (1, .i .u32 v)], []⟩)
  (fun i => i ≤ l.length ∧ ∀ q, q < i → l.getD q 0 ≠ v) (fun i => l.length - i) 0 ⟨Nat.zero_le _, fun q h => by omega⟩ (by simp -implicitDefEqProofs only [evr, id, seval, exc_one, res_one, par_one, idn_one, idn_0, idn_1, idn_2, u32_one, resRow, res_ro, rExtract_tup, evl, evn]; first | rfl | trace_state) ?_
 rintro i ⟨hi, hq⟩
 (repeat refine Sat.seq ?_)
 (refine Sat.region_k fun k hk => ?_; simp -implicitDefEqProofs only [evr, id, seval, exc_one, res_one, par_one, idn_one, idn_0, idn_1, idn_2, u32_one, resRow, res_ro, rExtract_tup, evn]; refine hk _ ?_; clear hk k; try show Sat _ _ _ _ _)
 (repeat refine Sat.seq ?_)
 refine Sat.cond_b rfl (fun h => ?_) (fun h => ?_)
 ·have h1 : i < l.length := by simp only [decide_eq_true_eq] at h; omega
  have e3 : IntKind.i64.wrap ((i : Int) + 1) = ((i + 1 : Nat) : Int) := by rw [w64 (by omega)]; omega
  have q8 : u32Rd l i 0 = .i .u32 (l.getD i 0) := rfl
  refine Sat.skip ?_
  simp only [thenK]
  (repeat refine Sat.seq ?_)
  refine Sat.block ?_
  (repeat refine Sat.seq ?_)
  (refine Sat.region_k fun k hk => ?_; simp -implicitDefEqProofs only [evr, id, seval, exc_one, res_one, par_one, idn_one, idn_0, idn_1, idn_2, u32_one, resRow, res_ro, rExtract_tup, evn]; refine hk _ ?_; clear hk k; try show Sat _ _ _ _ _)
  (repeat refine Sat.seq ?_)
  (refine Sat.region_k fun k hk => ?_; simp -implicitDefEqProofs only [evr, id, seval, exc_one, res_one, par_one, idn_one, idn_0, idn_1, idn_2, u32_one, resRow, res_ro, rExtract_tup, evn])
  simp only [q8, evr, id, seval, exc_one, res_one, par_one, idn_one, idn_0, idn_1, idn_2, u32_one, List.append_nil, Int.toNat_zero, Nat.sub_self, Int.reduceToNat, resRow, res_ro, rExtract_tup]
  refine ⟨by omega, ?_⟩
  (refine hk _ ?_; clear hk k; try show Sat _ _ _ _ _)
  refine Sat.cond_b rfl (fun h2 => ?_) (fun h2 => ?_)
  ·(repeat refine Sat.seq ?_)
   (refine Sat.region_k fun k hk => ?_; simp -implicitDefEqProofs only [evr, id, seval, exc_one, res_one, par_one, idn_one, idn_0, idn_1, idn_2, u32_one, resRow, res_ro, rExtract_tup, evn]; refine hk _ ?_; clear hk k; try show Sat _ _ _ _ _)
   refine Sat.ret ?_
   simp only [blockK, Tryz.results109, evr, id, seval, exc_one, res_one, par_one, idn_one, idn_0, idn_1, idn_2, u32_one, List.append_nil, Int.toNat_zero, Nat.sub_self, Int.reduceToNat, resRow, res_ro, rExtract_tup]
   exact .inr ⟨i, h1, by simpa using Eq.symm (by simpa using h2), rfl⟩
  ·refine Sat.skip ?_
   simp only [thenK, blockK]
   refine Sat.region_k fun k hk => ?_
   simp -implicitDefEqProofs only [evr, id, seval, exc_one, res_one, par_one, idn_one, idn_0, idn_1, idn_2, u32_one, resRow, res_ro, rExtract_tup, e3, evn]
   refine hk _ ?_
   simp only [thenK, blockK]
   refine ⟨i + 1, ⟨h1, fun q hq2 => ?_⟩, by omega, ?_⟩
   ·by_cases e : q = i
    ·subst e; exact fun e9 => by rw [e9] at h2; simp at h2
    ·exact hq q (by omega)
   ·simp -implicitDefEqProofs only [evr, id, seval, exc_one, res_one, par_one, idn_one, idn_0, idn_1, idn_2, u32_one, resRow, res_ro, rExtract_tup, evl, evn]
 ·have h1 : i = l.length := by simp only [decide_eq_false_iff_not] at h; omega
  subst h1
  refine Sat.exit ?_
  simp only [thenK, blockK, reduceIte]
  (repeat refine Sat.seq ?_)
  (refine Sat.region_k fun k hk => ?_; simp -implicitDefEqProofs only [evr, id, seval, exc_one, res_one, par_one, idn_one, idn_0, idn_1, idn_2, u32_one, resRow, res_ro, rExtract_tup, evn]; refine hk _ ?_; clear hk k; try show Sat _ _ _ _ _)
  refine Sat.ret ?_
  simp only [Tryz.results109, evr, id, seval, exc_one, res_one, par_one, idn_one, idn_0, idn_1, idn_2, u32_one, List.append_nil, Int.toNat_zero, Nat.sub_self, Int.reduceToNat, resRow, res_ro, rExtract_tup]
  exact .inl hq
set_option maxRecDepth 100000 in
theorem containsAdC (F : Frm) (a : Option Addr) (cap : Nat) (l : List Int) (v : Int) (hl : l.length ≤ 1000000000) :
  Contract F Tryz.prog 74 [.sl a l.length cap 1 (u32Rd l), .i .u32 v] (fun r => r = .b (l.any fun m => m == v)) := by
 refine contract_of Tryz.func74 rfl (by kernel_rfl) ?_
 simp only [Tryz.ntmps74, argEnv]
 (repeat refine Sat.seq ?_)
 (refine Sat.region_k fun k hk => ?_; simp -implicitDefEqProofs only [evr, id, seval, exc_one, res_one, par_one, idn_one, idn_0, idn_1, idn_2, u32_one, resRow, res_ro, rExtract_tup, evn]; refine hk _ ?_; clear hk k; try show Sat _ _ _ _ _)
 (repeat refine Sat.seq ?_)
 (refine Sat.region_k fun k hk => ?_; simp -implicitDefEqProofs only [evr, id, seval, exc_one, res_one, par_one, idn_one, idn_0, idn_1, idn_2, u32_one, resRow, res_ro, rExtract_tup, evn])
 refine wcall_plain (indexAdC F a cap l v hl) rfl (by rintro _ (⟨rfl, _⟩ | ⟨i, _, _, rfl⟩) <;> exact ok_plain rfl) ?_
 rintro r (⟨rfl, hno⟩ | ⟨i, hi, hp, rfl⟩)
 ·simp -implicitDefEqProofs only [evr, id, seval, exc_one, res_one, par_one, idn_one, idn_0, idn_1, idn_2, u32_one, resRow, res_ro, rExtract_tup, evn]
  (refine hk _ ?_; clear hk k; try show Sat _ _ _ _ _)
  refine Sat.ret ?_
  simp only [Tryz.results74, evr, id, seval, exc_one, res_one, par_one, idn_one, idn_0, idn_1, idn_2, u32_one, List.append_nil, Int.toNat_zero, Nat.sub_self, Int.reduceToNat, resRow, res_ro, rExtract_tup]
  have : l.any (fun m => m == v) = false := by
   rw [List.any_eq_false]
   intro x hx
   obtain ⟨q, hq, rfl⟩ := List.getElem_of_mem hx
   have := hno q hq
   rw [List.getD_eq_getElem?_getD, List.getElem?_eq_getElem hq] at this
   simpa using this
  rw [this]; rfl
 ·simp -implicitDefEqProofs only [evr, id, seval, exc_one, res_one, par_one, idn_one, idn_0, idn_1, idn_2, u32_one, resRow, res_ro, rExtract_tup, evn]
  (refine hk _ ?_; clear hk k; try show Sat _ _ _ _ _)
  refine Sat.ret ?_
  simp only [Tryz.results74, evr, id, seval, exc_one, res_one, par_one, idn_one, idn_0, idn_1, idn_2, u32_one, List.append_nil, Int.toNat_zero, Nat.sub_self, Int.reduceToNat, resRow, res_ro, rExtract_tup]
  have : l.any (fun m => m == v) = true := by
   rw [List.any_eq_true]
   refine ⟨l[i], List.getElem_mem hi, ?_⟩
   rw [List.getD_eq_getElem?_getD, List.getElem?_eq_getElem hi] at hp
   simpa using hp
  rw [this]
theorem findS_eq (o : Option Res) : findS o = tupL [resAg (o.getD default), .b o.isSome] := by cases o <;> rfl
theorem exHolds_eq (xs : List Res) (x : Exc) : exHoldsV xs x = ((findV xs x.f).isSome && ((findV xs x.s).isSome && (decide (x.a ≠ 0) && (decide (x.a < x.b) && (togR ((findV xs x.f).getD default) ((findV xs x.s).getD default) && ((((findV xs x.f).getD default).from_ == x.a) && (((findV xs x.s).getD default).from_ == x.b))))))) := by
 unfold exHoldsV
 cases findV xs x.f <;> cases findV xs x.s <;> simp
set_option maxRecDepth 100000 in
theorem exHoldsC (F : Frm) (ad : Option Addr) (cap : Nat) (xs : List Res) (x : Exc) (hl : xs.length ≤ 1000000000) :
  Contract F Tryz.prog 21 [.sl ad xs.length cap 17 (resRd xs.toArray), excAg x] (fun r => r = .b (exHoldsV xs x)) := by
 have key := exHolds_eq xs x
 refine contract_of Tryz.func21 rfl (by kernel_rfl) ?_
 simp only [Tryz.ntmps21, argEnv, excAg, Exc.cs]
 (repeat refine Sat.seq ?_)
 (refine Sat.region_k fun k hk => ?_; simp -implicitDefEqProofs only [evr, id, seval, exc_one, res_one, par_one, idn_one, idn_0, idn_1, idn_2, u32_one, resRow, res_ro, rExtract_tup, evn])
 intro b3
 (refine hk _ ?_; clear hk k; try show Sat _ _ _ _ _)
 refine Sat.settleLast [] 3 rfl ?_
 (repeat refine Sat.seq ?_)
 (refine Sat.region_k fun k hk => ?_; simp -implicitDefEqProofs only [evr, id, seval, exc_one, res_one, par_one, idn_one, idn_0, idn_1, idn_2, u32_one, resRow, res_ro, rExtract_tup, evn])
 refine wcall_plain (Contract.of_sim (args := [.sl ad xs.length cap 17 (resRd xs.toArray), .agg 3 fun j => (Exc.cs x).getD (2 + j) default]) (findC F ad cap xs x.f hl) ⟨sim_refl _, sim_idn rfl rfl rfl, trivial⟩) rfl (by rintro _ rfl; exact findS_ok _) ?_
 rintro _ rfl
 rw [findS_eq]
 obtain ⟨a, ha⟩ : ∃ a, a = (findV xs x.f).getD default := ⟨_, rfl⟩
 obtain ⟨p, hp⟩ : ∃ p, p = (findV xs x.f).isSome := ⟨_, rfl⟩
 rw [← ha, ← hp] at key ⊢
 simp only [tupL, resAg, Res.cs, evr, id, seval, exc_one, res_one, par_one, idn_one, idn_0, idn_1, idn_2, u32_one, List.append_nil, Int.toNat_zero, Nat.sub_self, Int.reduceToNat, resRow, res_ro, rExtract_tup]
 intro b5
 (refine hk _ ?_; clear hk k; try show Sat _ _ _ _ _)
 refine Sat.settleLast [] 5 rfl ?_
 (repeat refine Sat.seq ?_)
 (refine Sat.region_k fun k hk => ?_; simp -implicitDefEqProofs only [evr, id, seval, exc_one, res_one, par_one, idn_one, idn_0, idn_1, idn_2, u32_one, resRow, res_ro, rExtract_tup, evn])
 refine wcall_plain (Contract.of_sim (args := [.sl ad xs.length cap 17 (resRd xs.toArray), .agg 3 fun j => (Exc.cs x).getD (5 + j) default]) (findC F ad cap xs x.s hl) ⟨sim_refl _, sim_idn rfl rfl rfl, trivial⟩) rfl (by rintro _ rfl; exact findS_ok _) ?_
 rintro _ rfl
 rw [findS_eq]
 obtain ⟨b, hb⟩ : ∃ b, b = (findV xs x.s).getD default := ⟨_, rfl⟩
 obtain ⟨q, hq⟩ : ∃ q, q = (findV xs x.s).isSome := ⟨_, rfl⟩
 rw [← hb, ← hq] at key ⊢
 simp only [tupL, resAg, Res.cs, evr, id, seval, exc_one, res_one, par_one, idn_one, idn_0, idn_1, idn_2, u32_one, List.append_nil, Int.toNat_zero, Nat.sub_self, Int.reduceToNat, resRow, res_ro, rExtract_tup]
 intro b7
 (refine hk _ ?_; clear hk k; try show Sat _ _ _ _ _)
 refine Sat.settleLast [] 7 rfl ?_
 (repeat refine Sat.seq ?_)
 refine Sat.at ⟨60, [(4, .b (exHoldsV xs x))], []⟩ ?_ ?_
 ·(refine Sat.region_k fun k hk => ?_; simp -implicitDefEqProofs only [evr, id, seval, exc_one, res_one, par_one, idn_one, idn_0, idn_1, idn_2, u32_one, resRow, res_ro, rExtract_tup, evn])
  refine ⟨fun h1 => ⟨fun h2 => ⟨fun h3 => ⟨fun h4 => ?_, fun h4 => ?_⟩, fun h3 => ?_⟩, fun h2 => ?_⟩, fun h1 => ?_⟩
  ·refine wcall_plain (togC F a b) rfl (by rintro _ rfl; exact ok_plain rfl) ?_
   rintro _ rfl
   simp -implicitDefEqProofs only [evr, id, seval, exc_one, res_one, par_one, idn_one, idn_0, idn_1, idn_2, u32_one, resRow, res_ro, rExtract_tup, evn]
   refine ⟨fun h5 => ⟨fun h6 => ?_, fun h6 => ?_⟩, fun h5 => ?_⟩
   all_goals
    refine hk _ ?_
    simp only [thenK]
   ·have e : exHoldsV xs x = (b.from_ == x.b) := by
     rw [key, h1, h2, h5, decide_eq_true (bne_iff_ne.1 h3), decide_eq_true h4]
     simp only [Bool.true_and]
     rw [show (a.from_ == x.a) = true by simpa using h6, Bool.true_and]
    rw [e]
    simp -implicitDefEqProofs only [evr, id, seval, exc_one, res_one, par_one, idn_one, idn_0, idn_1, idn_2, u32_one, resRow, res_ro, rExtract_tup, evl, evn]
   ·have e : exHoldsV xs x = false := by
     rw [key]
     rw [show (a.from_ == x.a) = false by simpa using h6]
     simp
    rw [e]
    simp -implicitDefEqProofs only [evr, id, seval, exc_one, res_one, par_one, idn_one, idn_0, idn_1, idn_2, u32_one, resRow, res_ro, rExtract_tup, evl, evn]
   ·have e : exHoldsV xs x = false := by
     rw [key, h5]
     simp
    rw [e]
    simp -implicitDefEqProofs only [evr, id, seval, exc_one, res_one, par_one, idn_one, idn_0, idn_1, idn_2, u32_one, resRow, res_ro, rExtract_tup, evl, evn]
  ·have e : exHoldsV xs x = false := by
    rw [key, decide_eq_false h4]
    simp
   refine hk _ ?_
   simp only [thenK, e]
   simp -implicitDefEqProofs only [evr, id, seval, exc_one, res_one, par_one, idn_one, idn_0, idn_1, idn_2, u32_one, resRow, res_ro, rExtract_tup, evl, evn]
  ·have e : exHoldsV xs x = false := by
    rw [key, decide_eq_false (fun h9 => by simp at h3; exact h9 h3)]
    simp
   refine hk _ ?_
   simp only [thenK, e]
   simp -implicitDefEqProofs only [evr, id, seval, exc_one, res_one, par_one, idn_one, idn_0, idn_1, idn_2, u32_one, resRow, res_ro, rExtract_tup, evl, evn]
  ·have e : exHoldsV xs x = false := by
    rw [key, h2]
    simp
   refine hk _ ?_
   simp only [thenK, e]
   simp -implicitDefEqProofs only [evr, id, seval, exc_one, res_one, par_one, idn_one, idn_0, idn_1, idn_2, u32_one, resRow, res_ro, rExtract_tup, evl, evn]
  ·have e : exHoldsV xs x = false := by
    rw [key, h1]
    simp
   refine hk _ ?_
   simp only [thenK, e]
   simp -implicitDefEqProofs only [evr, id, seval, exc_one, res_one, par_one, idn_one, idn_0, idn_1, idn_2, u32_one, resRow, res_ro, rExtract_tup, evl, evn]
 simp only [thenK, blockK]
 refine Sat.ret ?_
 simp only [Tryz.results21, evr, id, seval, exc_one, res_one, par_one, idn_one, idn_0, idn_1, idn_2, u32_one, List.append_nil, Int.toNat_zero, Nat.sub_self, Int.reduceToNat, resRow, res_ro, rExtract_tup]
end Go.Proofs.YtfeiiadligkamaaGreat


/- exclusion.HoldsMate, by the evaluator. -/
namespace Go.Proofs.YtfeiiadligkamaaGreat
open Go.Sort Eng
theorem res_appX {ys : List Res} {x : Res} {cs : List SV} (h : cs = Res.cs x) : rdEq (ys.length + 1) 17 (rdCat ys.length (resRd ys.toArray) (rdL cs 17)) (resRd (ys ++ [x]).toArray) := by
 subst h
 refine rdEq_snoc (fun i j hi hj => ?_) (fun j hj => ?_)
 ·unfold resRd
  simp [getElem!_def, List.getElem?_append, hi]
 ·unfold resRd
  simp [getElem!_def]
def adKey (K : List Int) (i : Nat) : List Int := [K.getD i 0]
def adVal (i : Nat) : SV := .tt
theorem hmOwn_take {xs : List Res} {ids : List Idn} {i : Nat} (h : i < ids.length) : hmOwn xs (ids.take (i + 1)) = hmOwn xs (ids.take i) ++ (match findV xs ids[i] with | some r => if wayR r = true then [r] else [] | none => []) := by
 unfold hmOwn
 rw [List.take_succ_eq_append_getElem h, List.filterMap_append, List.filter_append]
 congr 1
 cases hf : findV xs ids[i] with
 | none => simp [hf]
 | some r =>
  simp only [List.filterMap_cons, hf, List.filterMap_nil, List.filter_cons, List.filter_nil]
theorem hmOwn_len (xs : List Res) (ids : List Idn) : (hmOwn xs ids).length ≤ ids.length := by
 unfold hmOwn
 exact Nat.le_trans (List.length_filter_le _ _) (List.length_filterMap_le _ _)
def AdOf (K : List Int) (own : List Res) : Prop := ∀ k, k ∈ K ↔ ∃ c ∈ own, c.from_ = k
theorem AdOf.keep {K : List Int} {own : List Res} {r : Res} (h : AdOf K own) (hr : r.from_ ∈ K) : AdOf K (own ++ [r]) := fun k => (h k).trans ⟨fun ⟨c, hc, e⟩ => ⟨c, List.mem_append.2 (.inl hc), e⟩, fun ⟨c, hc, e⟩ => by
 rcases List.mem_append.1 hc with hc | hc
 ·exact ⟨c, hc, e⟩
 ·rw [List.mem_singleton] at hc
  subst hc
  rw [← e]
  exact (h _).1 hr⟩
theorem AdOf.new {K : List Int} {own : List Res} {r : Res} (h : AdOf K own) : AdOf (K ++ [r.from_]) (own ++ [r]) := fun k => by
 rw [List.mem_append, List.mem_singleton, h]
 constructor
 ·rintro (⟨c, hc, e⟩ | e)
  ·exact ⟨c, List.mem_append.2 (.inl hc), e⟩
  ·exact ⟨r, List.mem_append.2 (.inr (List.mem_singleton.2 rfl)), e.symm⟩
 ·rintro ⟨c, hc, e⟩
  rcases List.mem_append.1 hc with hc | hc
  ·exact .inl ⟨c, hc, e⟩
  ·rw [List.mem_singleton] at hc
   subst hc
   exact .inr e.symm
theorem AdOf.has {K : List Int} {own : List Res} (h : AdOf K own) (k : Int) : (own.any fun c => c.from_ == k) = decide (k ∈ K) := by
 apply Bool.eq_iff_iff.2
 rw [List.any_eq_true, decide_eq_true_eq, h]
 simp only [beq_iff_eq]
def hmG (xs : List Res) (e : Evd) (a : Res) : Bool := ((a.from_ == e.a) || (a.from_ == e.b)) && (hmOwn xs e.ids).any fun b => hmP xs e a b
set_option maxHeartbeats 2000000 in
set_option maxRecDepth 100000 in
theorem holdsMateC (F : Frm) (ad : Option Addr) (cap : Nat) (xs : List Res) (e : Evd) (hl : xs.length ≤ 1000000000) (he : e.ids.length ≤ 1000000000) :
  Contract F Tryz.prog 28 [.sl ad xs.length cap 17 (resRd xs.toArray), evAg e] (fun r => r = .b (hmV xs e)) := by
 refine contract_of Tryz.func28 rfl (by kernel_rfl) ?_
 simp only [Tryz.ntmps28, argEnv, evAg, Evd.cs]
 (repeat refine Sat.seq ?_)
 (refine Sat.region_k fun k hk => ?_; simp -implicitDefEqProofs only [evr, id, seval, ev_one, res_one, idn_one, idn_0, idn_1, idn_2, par_one, u32_one, resRow, res_ro, rExtract_tup, tl_get, tl_set, evn])
 intro b3
 (refine hk _ ?_; clear hk k; try show Sat _ _ _ _ _)
 refine Sat.settleLast [] 3 rfl ?_
 (repeat refine Sat.seq ?_)
 refine Sat.joinK (ι := Bool) (fun q => ⟨104, [(23, .b q), (3, .el ⟨b3, 0, none⟩ 4 fun j => (Evd.cs e).getD j default), (0, .sl ad xs.length cap 17 (resRd xs.toArray))], []⟩) (fun q => q = !(validEv e && decide (e.kind = 2))) (fun hrest => ?_) ?_
 ·(refine Sat.region_k fun k hk => ?_; simp -implicitDefEqProofs only [evr, id, seval, ev_one, res_one, idn_one, idn_0, idn_1, idn_2, par_one, u32_one, resRow, res_ro, rExtract_tup, tl_get, tl_set, evn])
  refine wcall_plain (validEvC F e he) rfl (by rintro _ rfl; exact ok_plain rfl) ?_
  rintro _ rfl
  simp -implicitDefEqProofs only [evr, id, seval, ev_one, res_one, idn_one, idn_0, idn_1, idn_2, par_one, u32_one, resRow, res_ro, rExtract_tup, tl_get, tl_set, evn]
  refine ⟨fun h1 => ?_, fun h1 => ?_⟩
  ·refine hk _ ?_
   simp only [thenK]
   refine (hrest true (by simp at h1; rw [h1]; rfl)).le ?_
   simp -implicitDefEqProofs only [evr, id, seval, ev_one, res_one, idn_one, idn_0, idn_1, idn_2, par_one, u32_one, resRow, res_ro, rExtract_tup, tl_get, tl_set, evl, evn]
   try rfl
  ·refine hk _ ?_
   simp only [thenK]
   refine (hrest (e.kind != 2) (by simp at h1; rw [h1, Bool.true_and]; rfl)).le ?_
   simp -implicitDefEqProofs only [evr, id, seval, ev_one, res_one, idn_one, idn_0, idn_1, idn_2, par_one, u32_one, resRow, res_ro, rExtract_tup, tl_get, tl_set, evl, evn]
   try rfl
 rintro q rfl
 simp only [Evd.cs]
 (repeat refine Sat.seq ?_)
 refine Sat.cond_b rfl (fun h => ?_) (fun h => ?_)
 ·(repeat refine Sat.seq ?_)
  (refine Sat.region_k fun k hk => ?_; simp -implicitDefEqProofs only [evr, id, seval, ev_one, res_one, idn_one, idn_0, idn_1, idn_2, par_one, u32_one, resRow, res_ro, rExtract_tup, tl_get, tl_set, evn]; refine hk _ ?_; clear hk k; try show Sat _ _ _ _ _)
  refine Sat.ret ?_
  simp only [Tryz.results28, evr, id, seval, ev_one, res_one, idn_one, idn_0, idn_1, idn_2, par_one, u32_one, List.append_nil, Int.toNat_zero, Nat.sub_self, Int.reduceToNat, resRow, res_ro, rExtract_tup, tl_get, tl_set]
  unfold hmV
  simp only [Bool.not_eq_true'] at h
  rw [h]
  rfl
 simp only [Bool.not_eq_false'] at h
 refine Sat.skip ?_
 simp only [thenK]
 have hT : mqT Tryz.prog 116 = some (true, [.u32], 4) := by kernel_rfl
 (repeat refine Sat.seq ?_)
 (refine Sat.region_k fun k hk => ?_; simp -implicitDefEqProofs only [evr, id, seval, ev_one, res_one, idn_one, idn_0, idn_1, idn_2, par_one, u32_one, resRow, res_ro, rExtract_tup, tl_get, tl_set, evn]; refine hk _ ?_; clear hk k; try show Sat _ _ _ _ _)
 (repeat refine Sat.seq ?_)
 (refine Sat.region_k fun k hk => ?_; simp -implicitDefEqProofs only [evr, id, seval, ev_one, res_one, idn_one, idn_0, idn_1, idn_2, par_one, u32_one, resRow, res_ro, rExtract_tup, tl_get, tl_set, evn])
 refine makeMq hT (show 24 < 104 by decide) fun mb => ?_
 simp -implicitDefEqProofs only [evr, id, seval, ev_one, res_one, idn_one, idn_0, idn_1, idn_2, par_one, u32_one, resRow, res_ro, rExtract_tup, tl_get, tl_set, evn]
 (refine hk _ ?_; clear hk k; try show Sat _ _ _ _ _)
 (repeat refine Sat.seq ?_)
 (refine Sat.region_k fun k hk => ?_; simp -implicitDefEqProofs only [evr, id, seval, ev_one, res_one, idn_one, idn_0, idn_1, idn_2, par_one, u32_one, resRow, res_ro, rExtract_tup, tl_get, tl_set, evn]; refine hk _ ?_; clear hk k; try show Sat _ _ _ _ _)
 refine Sat.adopt 5 62 17 (resRd #[]) rfl ?_
 (repeat refine Sat.seq ?_)
 refine Sat.block ?_
 refine Sat.loop (ι := Nat × Option Addr × Nat × List Int) (fun z => ⟨104, [(28, .i .i64 z.1), (27, .i .i64 e.ids.length), (26, .sl e.ad e.ids.length e.cap 3 (idnRd e.ids.toArray)), (3, .el ⟨b3, 0, none⟩ 4 fun j => (Evd.cs e).getD j default), (5, .os 1 z.2.1 (hmOwn xs (e.ids.take z.1)).length z.2.2.1), (6, .mp 0 mb), (0, .sl ad xs.length cap 17 (resRd xs.toArray))], [.mq mb true [.u32] z.2.2.2.length (adKey z.2.2.2) adVal, resRow z.2.1 (hmOwn xs (e.ids.take z.1)).length z.2.2.1 (hmOwn xs (e.ids.take z.1)).toArray]⟩)
  (fun z => z.1 ≤ e.ids.length ∧ AdOf z.2.2.2 (hmOwn xs (e.ids.take z.1)) ∧ ∀ d ∈ e.ids.take z.1, (findV xs d).isSome = true) (fun z => e.ids.length - z.1) (0, none, 0, []) ⟨Nat.zero_le _, fun k => ⟨fun h => (by cases h), fun ⟨c, h, _⟩ => (by cases h)⟩, fun d hd => by simp at hd⟩ (by
   simp only [Evd.cs, resRow, hmOwn, List.take_zero, List.filterMap_nil, List.filter_nil, List.length_nil]
   simp -implicitDefEqProofs only [evr, id, seval, ev_one, res_one, idn_one, idn_0, idn_1, idn_2, par_one, u32_one, resRow, res_ro, rExtract_tup, tl_get, tl_set, evl, evn]
   exact fun i hi => absurd hi (Nat.not_lt_zero _)) ?_
 rintro ⟨i, oa, oc, K⟩ ⟨hi, hK, hq⟩
 simp only at hi hK hq ⊢
 obtain ⟨ow, how⟩ : ∃ ow, ow = hmOwn xs (e.ids.take i) := ⟨_, rfl⟩
 have howl : ow.length ≤ e.ids.length := by rw [how]; exact Nat.le_trans (hmOwn_len _ _) (by rw [List.length_take]; omega)
 rw [← how] at hK ⊢
 simp only [Evd.cs, resRow]
 (repeat refine Sat.seq ?_)
 (refine Sat.region_k fun k hk => ?_; simp -implicitDefEqProofs only [evr, id, seval, ev_one, res_one, idn_one, idn_0, idn_1, idn_2, par_one, u32_one, resRow, res_ro, rExtract_tup, tl_get, tl_set, evn]; refine hk _ ?_; clear hk k; try show Sat _ _ _ _ _)
 (repeat refine Sat.seq ?_)
 refine Sat.cond_b rfl (fun h2 => ?_) (fun h2 => ?_)
 ·have hlt : i < e.ids.length := by simp only [decide_eq_true_eq] at h2; omega
  have e1 : IntKind.i64.wrap ((i : Int) + 1) = ((i + 1 : Nat) : Int) := by rw [w64 (by omega)]; omega
  obtain ⟨d, hd⟩ : ∃ d, d = e.ids.toArray[i]! := ⟨_, rfl⟩
  have hdi : e.ids[i] = d := by rw [hd]; simp [getElem!_def, hlt]
  refine Sat.skip ?_
  simp only [thenK]
  (repeat refine Sat.seq ?_)
  refine Sat.block ?_
  (repeat refine Sat.seq ?_)
  (refine Sat.region_k fun k hk => ?_; simp -implicitDefEqProofs only [evr, id, seval, ev_one, res_one, idn_one, idn_0, idn_1, idn_2, par_one, u32_one, resRow, res_ro, rExtract_tup, tl_get, tl_set, evn])
  refine ⟨by omega, fun b8 => ?_⟩
  (refine hk _ ?_; clear hk k; try show Sat _ _ _ _ _)
  refine Sat.settleLast [.mq mb true [.u32] K.length (adKey K) adVal, .row oa 62 ow.length oc 17 (resRd ow.toArray)] 8 rfl ?_
  simp only [List.length_cons, List.length_nil, Nat.reduceAdd]
  (repeat refine Sat.seq ?_)
  (refine Sat.region_k fun k hk => ?_; simp -implicitDefEqProofs only [evr, id, seval, ev_one, res_one, idn_one, idn_0, idn_1, idn_2, par_one, u32_one, resRow, res_ro, rExtract_tup, tl_get, tl_set, evn])
  refine wcall_plain (findC F ad cap xs e.ids.toArray[i]! hl) rfl (by rintro _ rfl; exact findS_ok _) ?_
  rintro _ rfl
  rw [← hd]
  cases hf : findV xs d with
  | none =>
   simp only [findS, tupL, resAg, Res.cs, evr, id, seval, ev_one, res_one, idn_one, idn_0, idn_1, idn_2, par_one, u32_one, List.append_nil, Int.toNat_zero, Nat.sub_self, Int.reduceToNat, resRow, res_ro, rExtract_tup, tl_get, tl_set]
   intro b9
   (refine hk _ ?_; clear hk k; try show Sat _ _ _ _ _)
   (repeat refine Sat.seq ?_)
   (refine Sat.region_k fun k hk => ?_; simp -implicitDefEqProofs only [evr, id, seval, ev_one, res_one, idn_one, idn_0, idn_1, idn_2, par_one, u32_one, resRow, res_ro, rExtract_tup, tl_get, tl_set, evn]; refine hk _ ?_; clear hk k; try show Sat _ _ _ _ _)
   (repeat refine Sat.seq ?_)
   refine Sat.cond_b rfl (fun h3 => ?_) (fun h3 => absurd h3 (by decide))
   (repeat refine Sat.seq ?_)
   (refine Sat.region_k fun k hk => ?_; simp -implicitDefEqProofs only [evr, id, seval, ev_one, res_one, idn_one, idn_0, idn_1, idn_2, par_one, u32_one, resRow, res_ro, rExtract_tup, tl_get, tl_set, evn]; refine hk _ ?_; clear hk k; try show Sat _ _ _ _ _)
   refine Sat.ret ?_
   simp only [blockK, Tryz.results28, evr, id, seval, ev_one, res_one, idn_one, idn_0, idn_1, idn_2, par_one, u32_one, List.append_nil, Int.toNat_zero, Nat.sub_self, Int.reduceToNat, resRow, res_ro, rExtract_tup, tl_get, tl_set]
   have : (e.ids.all fun d => (findV xs d).isSome) = false := List.all_eq_false.2 ⟨d, by rw [← hdi]; exact List.getElem_mem _, by rw [hf]; decide⟩
   unfold hmV
   rw [this]
   simp
  | some r =>
   simp only [findS, tupL, resAg, Res.cs, evr, id, seval, ev_one, res_one, idn_one, idn_0, idn_1, idn_2, par_one, u32_one, List.append_nil, Int.toNat_zero, Nat.sub_self, Int.reduceToNat, resRow, res_ro, rExtract_tup, tl_get, tl_set]
   intro b9
   (refine hk _ ?_; clear hk k; try show Sat _ _ _ _ _)
   refine Sat.settleLast [.mq mb true [.u32] K.length (adKey K) adVal, .row oa 62 ow.length oc 17 (resRd ow.toArray)] 9 rfl ?_
   simp only [List.length_cons, List.length_nil, Nat.reduceAdd]
   (repeat refine Sat.seq ?_)
   (refine Sat.region_k fun k hk => ?_; simp -implicitDefEqProofs only [evr, id, seval, ev_one, res_one, idn_one, idn_0, idn_1, idn_2, par_one, u32_one, resRow, res_ro, rExtract_tup, tl_get, tl_set, evn]; refine hk _ ?_; clear hk k; try show Sat _ _ _ _ _)
   (repeat refine Sat.seq ?_)
   refine Sat.cond_b rfl (fun h3 => absurd h3 (by decide)) (fun h3 => ?_)
   refine Sat.skip ?_
   simp only [thenK]
   have hq2 : ∀ d ∈ e.ids.take (i + 1), (findV xs d).isSome = true := fun d' hd' => by
    rw [List.take_succ_eq_append_getElem hlt] at hd'
    rcases List.mem_append.1 hd' with hd' | hd'
    ·exact hq d' hd'
    ·rw [List.mem_singleton] at hd'
     rw [hd', hdi, hf]; rfl
   have hstep := hmOwn_take (xs := xs) hlt
   rw [hdi, hf, ← how] at hstep
   (repeat refine Sat.seq ?_)
   (refine Sat.region_k fun k hk => ?_; simp -implicitDefEqProofs only [evr, id, seval, ev_one, res_one, idn_one, idn_0, idn_1, idn_2, par_one, u32_one, resRow, res_ro, rExtract_tup, tl_get, tl_set, evn])
   refine wcall_plain (wayC F r) rfl (by rintro _ rfl; exact ok_plain rfl) ?_
   rintro _ rfl
   simp -implicitDefEqProofs only [evr, id, seval, ev_one, res_one, idn_one, idn_0, idn_1, idn_2, par_one, u32_one, resRow, res_ro, rExtract_tup, tl_get, tl_set, evn]
   (refine hk _ ?_; clear hk k; try show Sat _ _ _ _ _)
   (repeat refine Sat.seq ?_)
   refine Sat.cond_b rfl (fun h4 => ?_) (fun h4 => ?_)
   ·have hstep2 : hmOwn xs (e.ids.take (i + 1)) = ow ++ [r] := by rw [hstep]; simp only; rw [if_pos h4]
    (repeat refine Sat.seq ?_)
    refine Sat.region_k fun kk hk => ?_
    simp -implicitDefEqProofs only [evr, id, seval, ev_one, res_one, idn_one, idn_0, idn_1, idn_2, par_one, u32_one, resRow, res_ro, rExtract_tup, tl_get, tl_set, evn]
    refine fun b0 => ⟨⟨by unfold maxLen; omega, by omega⟩, fun a2 c2 => hk _ ?_⟩
    clear hk kk
    simp only [thenK]
    refine Sat.atF (ι := List Int) (fun K2 => ⟨104, [(28, .i .i64 i), (27, .i .i64 e.ids.length), (26, .sl e.ad e.ids.length e.cap 3 (idnRd e.ids.toArray)), (3, .el ⟨b3, 0, none⟩ 4 fun j => (Evd.cs e).getD j default), (5, .os 1 a2 (ow.length + 1) c2), (6, .mp 0 mb), (0, .sl ad xs.length cap 17 (resRd xs.toArray))], [.mq mb true [.u32] K2.length (adKey K2) adVal, .row a2 62 (ow.length + 1) c2 17 (resRd (ow ++ [r]).toArray)]⟩) (fun K2 => AdOf K2 (ow ++ [r])) ?_ ?_
    ·refine Sat.region_k fun kk hk => ?_
     simp -implicitDefEqProofs only [evr, id, seval, ev_one, res_one, idn_one, idn_0, idn_1, idn_2, par_one, u32_one, resRow, res_ro, rExtract_tup, tl_get, tl_set, evn]
     rcases Classical.em (r.from_ ∈ K) with hin | hin
     ·obtain ⟨j, hj, hjk⟩ := List.getElem_of_mem hin
      have hkj : adKey K j = [r.from_] := by unfold adKey; rw [List.getD_eq_getElem?_getD, List.getElem?_eq_getElem hj]; simp [hjk]
      refine updMq (l := [r.from_]) (id := 0) hT rfl rfl rfl rfl rfl trivial (fun j2 hj2 hk2 => ?_) (fun hno2 => absurd hkj (hno2 j hj))
      simp -implicitDefEqProofs only [evr, id, seval, ev_one, res_one, idn_one, idn_0, idn_1, idn_2, par_one, u32_one, resRow, res_ro, rExtract_tup, tl_get, tl_set, evn]
      refine hk _ ?_
      clear hk kk
      simp only [thenK]
      refine ⟨K, hK.keep hin, ?_⟩
      simp only [Evd.cs]
      simp -implicitDefEqProofs only [evr, id, seval, ev_one, res_one, idn_one, idn_0, idn_1, idn_2, par_one, u32_one, resRow, res_ro, rExtract_tup, tl_get, tl_set, evl, evn]
      exact ⟨fun q hq => ⟨rfl, by unfold adVal; simp only [svc]; split <;> rfl⟩, res_appX rfl⟩
     ·refine updMq (l := [r.from_]) (id := 0) hT rfl rfl rfl rfl rfl trivial (fun j2 hj2 hk2 => absurd (by
       unfold adKey at hk2
       rw [List.getD_eq_getElem?_getD, List.getElem?_eq_getElem hj2] at hk2
       have h9 : K[j2] = r.from_ := by simpa using hk2
       rw [← h9]; exact List.getElem_mem _) hin) (fun _ => ?_)
      simp -implicitDefEqProofs only [evr, id, seval, ev_one, res_one, idn_one, idn_0, idn_1, idn_2, par_one, u32_one, resRow, res_ro, rExtract_tup, tl_get, tl_set, evn]
      refine hk _ ?_
      clear hk kk
      simp only [thenK]
      refine ⟨K ++ [r.from_], hK.new, ?_⟩
      simp only [Evd.cs, List.length_append, List.length_singleton]
      simp -implicitDefEqProofs only [evr, id, seval, ev_one, res_one, idn_one, idn_0, idn_1, idn_2, par_one, u32_one, resRow, res_ro, rExtract_tup, tl_get, tl_set, evl, evn]
      refine ⟨fun q hq => ?_, res_appX rfl⟩
      simp only []
      by_cases h9 : q = K.length
      ·subst h9
       rw [if_pos rfl, if_pos rfl]
       unfold adKey
       rw [List.getD_eq_getElem?_getD, List.getElem?_concat_length]
       exact ⟨rfl, rfl⟩
      ·rw [if_neg h9, if_neg h9]
       unfold adKey
       rw [List.getD_eq_getElem?_getD, List.getD_eq_getElem?_getD, List.getElem?_append_left (by omega)]
       exact ⟨rfl, rfl⟩
    rintro K2 hK2
    simp only [thenK, blockK, reduceIte]
    refine Sat.region_k fun kk hk => ?_
    simp only [Evd.cs, evr, id, seval, ev_one, res_one, idn_one, idn_0, idn_1, idn_2, par_one, u32_one, List.append_nil, Int.toNat_zero, Nat.sub_self, Int.reduceToNat, resRow, res_ro, rExtract_tup, tl_get, tl_set, e1]
    refine hk _ ?_
    simp only [thenK, blockK]
    refine ⟨(i + 1, a2, c2, K2), ⟨hlt, by simp only; rw [hstep2]; exact hK2, hq2⟩, by simp only; omega, ?_⟩
    simp only [hstep2, Evd.cs, resRow, List.length_append, List.length_singleton]
    simp -implicitDefEqProofs only [evr, id, seval, ev_one, res_one, idn_one, idn_0, idn_1, idn_2, par_one, u32_one, resRow, res_ro, rExtract_tup, tl_get, tl_set, evl, evn]
   ·have hw : wayR r = false := by simpa using h4
    have hstep2 : hmOwn xs (e.ids.take (i + 1)) = ow := by rw [hstep]; simp only; rw [if_neg (by rw [hw]; decide), List.append_nil]
    refine Sat.skip ?_
    simp only [thenK, blockK, reduceIte]
    refine Sat.region_k fun kk hk => ?_
    simp only [Evd.cs, evr, id, seval, ev_one, res_one, idn_one, idn_0, idn_1, idn_2, par_one, u32_one, List.append_nil, Int.toNat_zero, Nat.sub_self, Int.reduceToNat, resRow, res_ro, rExtract_tup, tl_get, tl_set, e1]
    refine hk _ ?_
    simp only [thenK, blockK]
    refine ⟨(i + 1, oa, oc, K), ⟨hlt, by simp only; rw [hstep2]; exact hK, hq2⟩, by simp only; omega, ?_⟩
    simp only [hstep2, Evd.cs, resRow]
    simp -implicitDefEqProofs only [evr, id, seval, ev_one, res_one, idn_one, idn_0, idn_1, idn_2, par_one, u32_one, resRow, res_ro, rExtract_tup, tl_get, tl_set, evl, evn]
 have h1 : i = e.ids.length := by simp only [decide_eq_false_iff_not] at h2; omega
 subst h1
 rw [List.take_length] at hq how
 refine Sat.exit ?_
 simp only [thenK, blockK, reduceIte]
 refine Sat.settleLastRow [.mq mb true [.u32] K.length (adKey K) adVal] 5 rfl ?_
 refine Sat.settleMap 6 rfl rfl ?_
 simp only [List.set_cons_zero]
 have hmain : hmV xs e = ow.any (hmG xs e) := by
  unfold hmV hmG
  rw [h, List.all_eq_true.2 hq, how]
  rfl
 refine Sat.le (st' := ⟨104, [(5, .sl oa ow.length oc 17 (resRd ow.toArray)), (3, .el ⟨b3, 0, none⟩ 4 fun j => (Evd.cs e).getD j default), (6, .rm mb true [.u32] K.length (adKey K) adVal)], []⟩) ?_ (by simp only [Evd.cs]; simp -implicitDefEqProofs only [evr, id, seval, ev_one, res_one, idn_one, idn_0, idn_1, idn_2, par_one, u32_one, resRow, res_ro, rExtract_tup, tl_get, tl_set, evl, evn])
 simp only [Evd.cs]
 (repeat refine Sat.seq ?_)
 (refine Sat.region_k fun k hk => ?_; simp -implicitDefEqProofs only [evr, id, seval, ev_one, res_one, idn_one, idn_0, idn_1, idn_2, par_one, u32_one, resRow, res_ro, rExtract_tup, tl_get, tl_set, evn]; refine hk _ ?_; clear hk k; try show Sat _ _ _ _ _)
 (repeat refine Sat.seq ?_)
 refine Sat.block ?_
 refine Sat.loop (ι := Nat) (fun i => ⟨104, [(53, .i .i64 i), (52, .i .i64 ow.length), (51, .sl oa ow.length oc 17 (resRd ow.toArray)), (5, .sl oa ow.length oc 17 (resRd ow.toArray)), (3, .el ⟨b3, 0, none⟩ 4 fun j => (Evd.cs e).getD j default), (6, .rm mb true [.u32] K.length (adKey K) adVal)], []⟩)
  (fun i => i ≤ ow.length ∧ ∀ a ∈ ow.take i, hmG xs e a = false) (fun i => ow.length - i) 0 ⟨Nat.zero_le _, fun a ha => by simp at ha⟩ (by simp only [Evd.cs]; simp -implicitDefEqProofs only [evr, id, seval, ev_one, res_one, idn_one, idn_0, idn_1, idn_2, par_one, u32_one, resRow, res_ro, rExtract_tup, tl_get, tl_set, evl, evn]; first | done | rfl | trace_state) ?_
 rintro i ⟨hi, hno⟩
 simp only [Evd.cs]
 (repeat refine Sat.seq ?_)
 (refine Sat.region_k fun k hk => ?_; simp -implicitDefEqProofs only [evr, id, seval, ev_one, res_one, idn_one, idn_0, idn_1, idn_2, par_one, u32_one, resRow, res_ro, rExtract_tup, tl_get, tl_set, evn]; refine hk _ ?_; clear hk k; try show Sat _ _ _ _ _)
 (repeat refine Sat.seq ?_)
 refine Sat.cond_b rfl (fun h2 => ?_) (fun h2 => ?_)
 ·have hlt : i < ow.length := by simp only [decide_eq_true_eq] at h2; omega
  have e1 : IntKind.i64.wrap ((i : Int) + 1) = ((i + 1 : Nat) : Int) := by rw [w64 (by omega)]; omega
  obtain ⟨a, ha⟩ : ∃ a, a = ow.toArray[i]! := ⟨_, rfl⟩
  have hai : ow[i] = a := by rw [ha, getB hlt]
  have htk : ow.take (i + 1) = ow.take i ++ [a] := by rw [List.take_succ_eq_append_getElem hlt, hai]
  have hnext : hmG xs e a = false → ∀ b ∈ ow.take (i + 1), hmG xs e b = false := fun h9 b hb => by
   rw [htk] at hb
   rcases List.mem_append.1 hb with hb | hb
   ·exact hno b hb
   ·rw [List.mem_singleton] at hb; rw [hb]; exact h9
  refine Sat.skip ?_
  simp only [thenK]
  (repeat refine Sat.seq ?_)
  refine Sat.block ?_
  (repeat refine Sat.seq ?_)
  (refine Sat.region_k fun k hk => ?_; simp -implicitDefEqProofs only [evr, id, seval, ev_one, res_one, idn_one, idn_0, idn_1, idn_2, par_one, u32_one, resRow, res_ro, rExtract_tup, tl_get, tl_set, evn])
  refine ⟨by omega, fun b12 => ?_⟩
  (refine hk _ ?_; clear hk k; try show Sat _ _ _ _ _)
  refine Sat.settleLast [] 12 rfl ?_
  refine Sat.le (st' := ⟨104, [(12, .el ⟨b12, 0, none⟩ 17 fun j => (Res.cs a).getD j default), (53, .i .i64 i), (52, .i .i64 ow.length), (51, .sl oa ow.length oc 17 (resRd ow.toArray)), (5, .sl oa ow.length oc 17 (resRd ow.toArray)), (3, .el ⟨b3, 0, none⟩ 4 fun j => (Evd.cs e).getD j default), (6, .rm mb true [.u32] K.length (adKey K) adVal)], []⟩) ?_ (by
   simp only [Evd.cs]
   simp -implicitDefEqProofs only [evr, id, seval, ev_one, res_one, idn_one, idn_0, idn_1, idn_2, par_one, u32_one, resRow, res_ro, rExtract_tup, tl_get, tl_set, evl, evn]
   first | done | (rw [ha]; rfl) | trace_state)
  simp only [Evd.cs, Res.cs]
  (repeat refine Sat.seq ?_)
  refine Sat.atF (ι := Bool) (fun q => ⟨104, [(70, .b q), (12, .el ⟨b12, 0, none⟩ 17 fun j => (Res.cs a).getD j default), (53, .i .i64 i), (52, .i .i64 ow.length), (51, .sl oa ow.length oc 17 (resRd ow.toArray)), (5, .sl oa ow.length oc 17 (resRd ow.toArray)), (3, .el ⟨b3, 0, none⟩ 4 fun j => (Evd.cs e).getD j default), (6, .rm mb true [.u32] K.length (adKey K) adVal)], []⟩) (fun q => q = !((a.from_ == e.a) || (a.from_ == e.b))) ?_ ?_
  ·(refine Sat.region_k fun k hk => ?_; simp -implicitDefEqProofs only [evr, id, seval, ev_one, res_one, idn_one, idn_0, idn_1, idn_2, par_one, u32_one, resRow, res_ro, rExtract_tup, tl_get, tl_set, evn])
   refine ⟨fun h3 => hk _ ?_, fun h3 => hk _ ?_⟩
   ·simp only [thenK]
    refine ⟨(a.from_ != e.b), by rw [show (a.from_ == e.a) = false by simpa using h3]; rfl, ?_⟩
    simp only [Evd.cs, Res.cs]
    simp -implicitDefEqProofs only [evr, id, seval, ev_one, res_one, idn_one, idn_0, idn_1, idn_2, par_one, u32_one, resRow, res_ro, rExtract_tup, tl_get, tl_set, evl, evn]
   ·simp only [thenK]
    refine ⟨false, by rw [show (a.from_ == e.a) = true by simpa using h3]; rfl, ?_⟩
    simp only [Evd.cs, Res.cs]
    simp -implicitDefEqProofs only [evr, id, seval, ev_one, res_one, idn_one, idn_0, idn_1, idn_2, par_one, u32_one, resRow, res_ro, rExtract_tup, tl_get, tl_set, evl, evn]
  rintro q rfl
  simp only [thenK, Evd.cs, Res.cs]
  (repeat refine Sat.seq ?_)
  refine Sat.cond_b rfl (fun h4 => ?_) (fun h4 => ?_)
  ·have hg : hmG xs e a = false := by
    unfold hmG
    simp only [Bool.not_eq_true'] at h4
    rw [h4]; rfl
   refine Sat.exit ?_
   simp only [thenK, blockK, reduceIte]
   refine Sat.region_k fun kk hk => ?_
   simp -implicitDefEqProofs only [evr, id, seval, ev_one, res_one, idn_one, idn_0, idn_1, idn_2, par_one, u32_one, resRow, res_ro, rExtract_tup, tl_get, tl_set, e1, evn]
   refine hk _ ?_
   simp only [thenK, blockK]
   refine ⟨i + 1, ⟨hlt, hnext hg⟩, by omega, ?_⟩
   try simp only [Evd.cs]
   simp -implicitDefEqProofs only [evr, id, seval, ev_one, res_one, idn_one, idn_0, idn_1, idn_2, par_one, u32_one, resRow, res_ro, rExtract_tup, tl_get, tl_set, evl, evn]
  have hg0 : hmG xs e a = ow.any fun b => hmP xs e a b := by
   unfold hmG
   simp only [Bool.not_eq_false'] at h4
   rw [h4, ← how]; rfl
  refine Sat.skip ?_
  simp only [thenK]
  (repeat refine Sat.seq ?_)
  (refine Sat.region_k fun k hk => ?_; simp -implicitDefEqProofs only [evr, id, seval, ev_one, res_one, idn_one, idn_0, idn_1, idn_2, par_one, u32_one, resRow, res_ro, rExtract_tup, tl_get, tl_set, evn]; refine hk _ ?_; clear hk k; try show Sat _ _ _ _ _)
  refine Sat.le (st' := ⟨104, [(13, .i .u32 (othV e a)), (12, .el ⟨b12, 0, none⟩ 17 fun j => (Res.cs a).getD j default), (53, .i .i64 i), (52, .i .i64 ow.length), (51, .sl oa ow.length oc 17 (resRd ow.toArray)), (5, .sl oa ow.length oc 17 (resRd ow.toArray)), (3, .el ⟨b3, 0, none⟩ 4 fun j => (Evd.cs e).getD j default), (6, .rm mb true [.u32] K.length (adKey K) adVal)], []⟩) ?_ (by
   simp only [Evd.cs, Res.cs]
   simp -implicitDefEqProofs only [evr, id, seval, ev_one, res_one, idn_one, idn_0, idn_1, idn_2, par_one, u32_one, resRow, res_ro, rExtract_tup, tl_get, tl_set, evl, evn]
   first | done | rfl | trace_state)
  obtain ⟨v, hv⟩ : ∃ v, v = othV e a := ⟨_, rfl⟩
  rw [← hv]
  simp only [Evd.cs, Res.cs]
  (repeat refine Sat.seq ?_)
  (refine Sat.region_k fun k hk => ?_; simp -implicitDefEqProofs only [evr, id, seval, ev_one, res_one, idn_one, idn_0, idn_1, idn_2, par_one, u32_one, resRow, res_ro, rExtract_tup, tl_get, tl_set, evn]; refine hk _ ?_; clear hk k; try show Sat _ _ _ _ _)
  (repeat refine Sat.seq ?_)
  refine Sat.block ?_
  refine Sat.loop (ι := Nat) (fun j => ⟨104, [(82, .i .i64 j), (81, .i .i64 ow.length), (80, .sl oa ow.length oc 17 (resRd ow.toArray)), (13, .i .u32 v), (12, .el ⟨b12, 0, none⟩ 17 fun j => (Res.cs a).getD j default), (53, .i .i64 i), (52, .i .i64 ow.length), (51, .sl oa ow.length oc 17 (resRd ow.toArray)), (5, .sl oa ow.length oc 17 (resRd ow.toArray)), (3, .el ⟨b3, 0, none⟩ 4 fun j => (Evd.cs e).getD j default), (6, .rm mb true [.u32] K.length (adKey K) adVal)], []⟩)
   (fun j => j ≤ ow.length ∧ ∀ b ∈ ow.take j, hmP xs e a b = false) (fun j => ow.length - j) 0 ⟨Nat.zero_le _, fun a ha => by simp at ha⟩ (by simp only [Evd.cs, Res.cs]; simp -implicitDefEqProofs only [evr, id, seval, ev_one, res_one, idn_one, idn_0, idn_1, idn_2, par_one, u32_one, resRow, res_ro, rExtract_tup, tl_get, tl_set, evl, evn]; first | done | rfl | trace_state) ?_
  rintro j ⟨hj, hno2⟩
  simp only [Evd.cs, Res.cs]
  (repeat refine Sat.seq ?_)
  (refine Sat.region_k fun k hk => ?_; simp -implicitDefEqProofs only [evr, id, seval, ev_one, res_one, idn_one, idn_0, idn_1, idn_2, par_one, u32_one, resRow, res_ro, rExtract_tup, tl_get, tl_set, evn]; refine hk _ ?_; clear hk k; try show Sat _ _ _ _ _)
  (repeat refine Sat.seq ?_)
  refine Sat.cond_b rfl (fun h5 => ?_) (fun h5 => ?_)
  ·have hlt2 : j < ow.length := by simp only [decide_eq_true_eq] at h5; omega
   have e2 : IntKind.i64.wrap ((j : Int) + 1) = ((j + 1 : Nat) : Int) := by rw [w64 (by omega)]; omega
   obtain ⟨b, hb⟩ : ∃ b, b = ow.toArray[j]! := ⟨_, rfl⟩
   have hbj : ow[j] = b := by rw [hb, getB hlt2]
   have htk2 : ow.take (j + 1) = ow.take j ++ [b] := by rw [List.take_succ_eq_append_getElem hlt2, hbj]
   refine Sat.skip ?_
   simp only [thenK]
   (repeat refine Sat.seq ?_)
   refine Sat.block ?_
   (repeat refine Sat.seq ?_)
   (refine Sat.region_k fun k hk => ?_; simp -implicitDefEqProofs only [evr, id, seval, ev_one, res_one, idn_one, idn_0, idn_1, idn_2, par_one, u32_one, resRow, res_ro, rExtract_tup, tl_get, tl_set, evn])
   refine ⟨by omega, fun b15 => ?_⟩
   (refine hk _ ?_; clear hk k; try show Sat _ _ _ _ _)
   refine Sat.settleLast [] 15 rfl ?_
   refine Sat.le (st' := ⟨104, [(15, .el ⟨b15, 0, none⟩ 17 fun j => (Res.cs b).getD j default), (82, .i .i64 j), (81, .i .i64 ow.length), (80, .sl oa ow.length oc 17 (resRd ow.toArray)), (13, .i .u32 v), (12, .el ⟨b12, 0, none⟩ 17 fun j => (Res.cs a).getD j default), (53, .i .i64 i), (52, .i .i64 ow.length), (51, .sl oa ow.length oc 17 (resRd ow.toArray)), (5, .sl oa ow.length oc 17 (resRd ow.toArray)), (3, .el ⟨b3, 0, none⟩ 4 fun j => (Evd.cs e).getD j default), (6, .rm mb true [.u32] K.length (adKey K) adVal)], []⟩) ?_ (by
    simp only [Evd.cs, Res.cs]
    simp -implicitDefEqProofs only [evr, id, seval, ev_one, res_one, idn_one, idn_0, idn_1, idn_2, par_one, u32_one, resRow, res_ro, rExtract_tup, tl_get, tl_set, evl, evn]
    first | done | (rw [hb]; rfl) | trace_state)
   simp only [Evd.cs, Res.cs]
   have hP : hmP xs e a b = (folR a b && (decide (v ∈ K) && (msV b.from_).any fun m => m == v)) := by
    unfold hmP
    rw [← hv, ← how, hK.has]
   obtain ⟨s, hs⟩ : ∃ s, s = decide (v ∈ K) := ⟨_, rfl⟩
   have hml : (msV b.from_).length ≤ 2 := by unfold msV; split <;> simp
   rw [← hs] at hP
   (repeat refine Sat.seq ?_)
   refine Sat.at ⟨104, [(101, .b (hmP xs e a b)), (82, .i .i64 j), (81, .i .i64 ow.length), (80, .sl oa ow.length oc 17 (resRd ow.toArray)), (13, .i .u32 v), (12, .el ⟨b12, 0, none⟩ 17 fun j => (Res.cs a).getD j default), (53, .i .i64 i), (52, .i .i64 ow.length), (51, .sl oa ow.length oc 17 (resRd ow.toArray)), (5, .sl oa ow.length oc 17 (resRd ow.toArray)), (3, .el ⟨b3, 0, none⟩ 4 fun j => (Evd.cs e).getD j default), (6, .rm mb true [.u32] K.length (adKey K) adVal)], []⟩ ?_ ?_
   ·have hkv : ∀ q, q < K.length → adKey K q = [v] → v ∈ K := fun q hq h9 => by
     unfold adKey at h9
     rw [List.getD_eq_getElem?_getD, List.getElem?_eq_getElem hq] at h9
     have h8 : K[q] = v := by simpa using h9
     rw [← h8]; exact List.getElem_mem _
    have hvk : v ∈ K → ¬ ∀ q, q < K.length → adKey K q ≠ [v] := fun hm h9 => by
     obtain ⟨q, hq, h8⟩ := List.getElem_of_mem hm
     refine h9 q hq ?_
     unfold adKey
     rw [List.getD_eq_getElem?_getD, List.getElem?_eq_getElem hq]
     simp [h8]
    cases s with
    | true =>
     have hin : v ∈ K := of_decide_eq_true hs.symm
     (refine Sat.region_k fun k hk => ?_; simp -implicitDefEqProofs only [evr, id, seval, ev_one, res_one, idn_one, idn_0, idn_1, idn_2, par_one, u32_one, resRow, res_ro, rExtract_tup, tl_get, tl_set, evn])
     refine wcall_plain (folC F a b) rfl (by rintro _ rfl; exact ok_plain rfl) ?_
     rintro _ rfl
     simp -implicitDefEqProofs only [evr, id, seval, ev_one, res_one, idn_one, idn_0, idn_1, idn_2, par_one, u32_one, resRow, res_ro, rExtract_tup, tl_get, tl_set, evn]
     refine ⟨fun h6 => ?_, fun h6 => ?_⟩
     ·refine lookMqU (l := [v]) hT (mqIn_rm (m := .tmp 90) rfl) rfl rfl .ff (by kernel_rfl) (fun R w => trivial) (show 92 < 104 by decide) .tt (fun q hq h9 => rfl) (fun h9 => absurd h9 (hvk hin)) ?_
      simp -implicitDefEqProofs only [evr, id, seval, ev_one, res_one, idn_one, idn_0, idn_1, idn_2, par_one, u32_one, resRow, res_ro, rExtract_tup, tl_get, tl_set, evn]
      refine wcall_new (matesC F b.from_) rfl rfl ?_
      rintro ra2 ty2 len2 rc2 sz2 rrd2 ⟨ma, mc, e9⟩
      simp only [u32Row, Eng.Own.row.injEq] at e9
      obtain ⟨rfl, rfl, rfl, rfl, rfl, rfl⟩ := e9
      simp -implicitDefEqProofs only [evr, id, seval, ev_one, res_one, idn_one, idn_0, idn_1, idn_2, par_one, u32_one, resRow, res_ro, rExtract_tup, tl_get, tl_set, evn]
      refine wcall_plain (containsAdC F ra2 rc2 (msV b.from_) v (by omega)) (by simp -implicitDefEqProofs only [evr, id, seval, ev_one, res_one, idn_one, idn_0, idn_1, idn_2, par_one, u32_one, resRow, res_ro, rExtract_tup, tl_get, tl_set, evn]) (by rintro _ rfl; exact ok_plain rfl) ?_
      rintro _ rfl
      simp -implicitDefEqProofs only [evr, id, seval, ev_one, res_one, idn_one, idn_0, idn_1, idn_2, par_one, u32_one, resRow, res_ro, rExtract_tup, tl_get, tl_set, evn]
      refine hk _ ?_
      have e9 : hmP xs e a b = (msV b.from_).any fun m => m == v := by rw [hP, h6]; rfl
      simp only [thenK, e9, Evd.cs, Res.cs]
      simp -implicitDefEqProofs only [evr, id, seval, ev_one, res_one, idn_one, idn_0, idn_1, idn_2, par_one, u32_one, resRow, res_ro, rExtract_tup, tl_get, tl_set, evl, evn]
     ·refine hk _ ?_
      have e9 : hmP xs e a b = false := by rw [hP, h6]; rfl
      simp only [thenK, e9, Evd.cs, Res.cs]
      simp -implicitDefEqProofs only [evr, id, seval, ev_one, res_one, idn_one, idn_0, idn_1, idn_2, par_one, u32_one, resRow, res_ro, rExtract_tup, tl_get, tl_set, evl, evn]
    | false =>
     have hin : v ∉ K := of_decide_eq_false hs.symm
     (refine Sat.region_k fun k hk => ?_; simp -implicitDefEqProofs only [evr, id, seval, ev_one, res_one, idn_one, idn_0, idn_1, idn_2, par_one, u32_one, resRow, res_ro, rExtract_tup, tl_get, tl_set, evn])
     refine wcall_plain (folC F a b) rfl (by rintro _ rfl; exact ok_plain rfl) ?_
     rintro _ rfl
     simp -implicitDefEqProofs only [evr, id, seval, ev_one, res_one, idn_one, idn_0, idn_1, idn_2, par_one, u32_one, resRow, res_ro, rExtract_tup, tl_get, tl_set, evn]
     refine ⟨fun h6 => ?_, fun h6 => ?_⟩
     ·refine lookMqU (l := [v]) hT (mqIn_rm (m := .tmp 90) rfl) rfl rfl .ff (by kernel_rfl) (fun R w => trivial) (show 92 < 104 by decide) .ff (fun q hq h9 => absurd (hkv q hq h9) hin) (fun _ => rfl) ?_
      simp -implicitDefEqProofs only [evr, id, seval, ev_one, res_one, idn_one, idn_0, idn_1, idn_2, par_one, u32_one, resRow, res_ro, rExtract_tup, tl_get, tl_set, evn]
      refine hk _ ?_
      have e9 : hmP xs e a b = false := by rw [hP, h6]; rfl
      simp only [thenK, e9, Evd.cs, Res.cs]
      simp -implicitDefEqProofs only [evr, id, seval, ev_one, res_one, idn_one, idn_0, idn_1, idn_2, par_one, u32_one, resRow, res_ro, rExtract_tup, tl_get, tl_set, evl, evn]
     ·refine hk _ ?_
      have e9 : hmP xs e a b = false := by rw [hP, h6]; rfl
      simp only [thenK, e9, Evd.cs, Res.cs]
      simp -implicitDefEqProofs only [evr, id, seval, ev_one, res_one, idn_one, idn_0, idn_1, idn_2, par_one, u32_one, resRow, res_ro, rExtract_tup, tl_get, tl_set, evl, evn]
   simp only [thenK, blockK, Evd.cs, Res.cs]
   (repeat refine Sat.seq ?_)
   refine Sat.cond_b rfl (fun h6 => ?_) (fun h6 => ?_)
   ·have hgood : hmG xs e a = true := by
     rw [hg0, List.any_eq_true]
     exact ⟨b, by rw [← hbj]; exact List.getElem_mem _, h6⟩
    (repeat refine Sat.seq ?_)
    (refine Sat.region_k fun k hk => ?_; simp -implicitDefEqProofs only [evr, id, seval, ev_one, res_one, idn_one, idn_0, idn_1, idn_2, par_one, u32_one, resRow, res_ro, rExtract_tup, tl_get, tl_set, evn]; refine hk _ ?_; clear hk k; try show Sat _ _ _ _ _)
    refine Sat.ret ?_
    simp only [thenK, blockK, Tryz.results28, evr, id, seval, ev_one, res_one, idn_one, idn_0, idn_1, idn_2, par_one, u32_one, List.append_nil, Int.toNat_zero, Nat.sub_self, Int.reduceToNat, resRow, res_ro, rExtract_tup, tl_get, tl_set]
    rw [hmain, List.any_eq_true.2 ⟨a, by rw [← hai]; exact List.getElem_mem _, hgood⟩]
   ·refine Sat.skip ?_
    simp only [thenK, blockK, reduceIte]
    refine Sat.region_k fun kk hk => ?_
    simp -implicitDefEqProofs only [evr, id, seval, ev_one, res_one, idn_one, idn_0, idn_1, idn_2, par_one, u32_one, resRow, res_ro, rExtract_tup, tl_get, tl_set, e2, evn]
    refine hk _ ?_
    simp only [thenK, blockK]
    refine ⟨j + 1, ⟨hlt2, fun b' hb' => ?_⟩, by omega, ?_⟩
    ·rw [htk2] at hb'
     rcases List.mem_append.1 hb' with hb' | hb'
     ·exact hno2 b' hb'
     ·rw [List.mem_singleton] at hb'; rw [hb']; exact h6
    ·try simp only [Evd.cs, Res.cs]
     simp -implicitDefEqProofs only [evr, id, seval, ev_one, res_one, idn_one, idn_0, idn_1, idn_2, par_one, u32_one, resRow, res_ro, rExtract_tup, tl_get, tl_set, evl, evn]
  have h6 : j = ow.length := by simp only [decide_eq_false_iff_not] at h5; omega
  subst h6
  rw [List.take_length] at hno2
  have hg : hmG xs e a = false := by
   rw [hg0, List.any_eq_false]
   exact fun b hb h9 => by rw [hno2 b hb] at h9; cases h9
  refine Sat.exit ?_
  simp only [thenK, blockK, reduceIte]
  refine Sat.region_k fun kk hk => ?_
  simp -implicitDefEqProofs only [evr, id, seval, ev_one, res_one, idn_one, idn_0, idn_1, idn_2, par_one, u32_one, resRow, res_ro, rExtract_tup, tl_get, tl_set, e1, evn]
  refine hk _ ?_
  simp only [thenK, blockK]
  refine ⟨i + 1, ⟨hlt, hnext hg⟩, by omega, ?_⟩
  try simp only [Evd.cs]
  simp -implicitDefEqProofs only [evr, id, seval, ev_one, res_one, idn_one, idn_0, idn_1, idn_2, par_one, u32_one, resRow, res_ro, rExtract_tup, tl_get, tl_set, evl, evn]
 have h6 : i = ow.length := by simp only [decide_eq_false_iff_not] at h2; omega
 subst h6
 rw [List.take_length] at hno
 refine Sat.exit ?_
 simp only [thenK, blockK, reduceIte]
 (repeat refine Sat.seq ?_)
 (refine Sat.region_k fun k hk => ?_; simp -implicitDefEqProofs only [evr, id, seval, ev_one, res_one, idn_one, idn_0, idn_1, idn_2, par_one, u32_one, resRow, res_ro, rExtract_tup, tl_get, tl_set, evn]; refine hk _ ?_; clear hk k; try show Sat _ _ _ _ _)
 refine Sat.ret ?_
 simp only [Tryz.results28, evr, id, seval, ev_one, res_one, idn_one, idn_0, idn_1, idn_2, par_one, u32_one, List.append_nil, Int.toNat_zero, Nat.sub_self, Int.reduceToNat, resRow, res_ro, rExtract_tup, tl_get, tl_set]
 rw [hmain]
 symm
 congr 1
 rw [List.any_eq_false]
 exact fun b hb h9 => by rw [hno b hb] at h9; cases h9
end Go.Proofs.YtfeiiadligkamaaGreat


/- The example of the chapter, by the evaluator: awake of law 28. -/
namespace Go.Proofs.YtfeiiadligkamaaGreat
open Go.Sort Eng
namespace Eng
theorem simA_mem : ∀ {l l' : List SV}, simA l l' → ∀ s' ∈ l', ∃ s ∈ l, sim s s'
 | [], [], _, s', h => by cases h
 | [], _ :: _, h, _, _ => h.elim
 | _ :: _, [], h, _, _ => h.elim
 | s :: l, t :: l', h, s', hs => by
  rcases List.mem_cons.1 hs with rfl | hs
  ·exact ⟨s, by simp, h.1⟩
  ·obtain ⟨x, hx, h2⟩ := simA_mem h.2 s' hs
   exact ⟨x, by simp [hx], h2⟩
theorem Sat.rebox {P : Program} {F : Frm} {n : Nat} {env : List (Nat × SV)} {own : List Own} {c : Code} {K : Exit → St → Prop} (id : Nat) {blk ty : Nat} {cs : List SV} (cs' : List SV) (hid : own[id]? = some (.box blk ty cs)) (hs : simA cs cs')
  (h : Sat P F c ⟨n, env, own.set id (.box blk ty cs')⟩ K) : Sat P F c ⟨n, env, own⟩ K := by
 rintro R0 w0 a w ⟨ob, R, hr⟩
 obtain ⟨b1, b2, b3, b4⟩ := hr.own id _ hid
 have hset := hr.setOwn (o' := .box blk ty cs') (g := blk) hid rfl (fun b hb => by simpa [Own.blk] using hb.symm) (w' := w) rfl rfl rfl (Nat.le_refl _) (fun _ _ _ => rfl)
  ⟨b1, b2, by rw [← simA_den hs]; exact b3, fun x hx => by
   obtain ⟨y, hy, hxy⟩ := simA_mem hs x hx
   have := b4 y hy
   exact ⟨by rw [← hxy.1]; exact this.1, hxy.2 R w this.2⟩⟩
 exact h R0 w0 a w ⟨ob, R, hset⟩
end Eng
theorem sim_tt : sim .tt (.b true) := ⟨rfl, fun _ _ _ => trivial⟩
end Go.Proofs.YtfeiiadligkamaaGreat


/- The example of the chapter, by the evaluator: awake of law 29. -/
namespace Go.Proofs.YtfeiiadligkamaaGreat
open Go.Sort Eng
theorem resAg_ok (x : Res) : ∀ R w, (resAg x).ok R w := fun R w => ok_aggL (l := Res.cs x) rfl R w
set_option maxRecDepth 100000 in
theorem replyC (F : Frm) (n fl tt fr : Int) (h1 : 0 ≤ n) (h2 : n ≤ 1000) : Contract F Tryz.prog 37 [.i .i64 n, .i .i64 fl, .i .i64 tt, .i .u32 fr] (fun r => r = resAg (rplR n fl tt fr)) := by
 have w1 : IntKind.i64.wrap (10 * n) = 10 * n := w64 (by omega)
 have w2 : IntKind.i64.wrap (10 * n + 1) = 10 * n + 1 := w64 (by omega)
 refine contract_of Tryz.func37 rfl (by kernel_rfl) ?_
 simp only [Tryz.ntmps37, argEnv]
 (repeat refine Sat.seq ?_)
 (refine Sat.region_k fun k hk => ?_; simp -implicitDefEqProofs only [evr, id, seval, ev_one, exc_one, res_one, idn_one, idn_0, idn_1, idn_2, par_one, u32_one, resRow, res_ro, rExtract_tup, tl_get, tl_set, evn])
 intro b8
 (refine hk _ ?_; clear hk k; try show Sat _ _ _ _ _)
 (repeat refine Sat.seq ?_)
 refine Sat.region_k fun k hk => ?_
 simp -implicitDefEqProofs only [evr, id, seval, ev_one, exc_one, res_one, idn_one, idn_0, idn_1, idn_2, par_one, u32_one, resRow, res_ro, rExtract_tup, tl_get, tl_set, w1, w2, evn]
 (refine hk _ ?_; clear hk k; try show Sat _ _ _ _ _)
 refine Sat.rebox 0 (Res.cs (rplR n fl tt fr)) rfl ⟨sim_refl _, sim_refl _, sim_refl _, sim_refl _, sim_refl _, sim_refl _, sim_refl _, sim_refl _, sim_tt, sim_refl _, sim_refl _, sim_refl _, sim_refl _, sim_refl _, sim_refl _, sim_refl _, sim_refl _, trivial⟩ ?_
 simp only [Res.cs, rplR, List.set_cons_zero]
 refine Sat.ret ?_
 simp only [Tryz.results37, evr, id, seval, ev_one, exc_one, res_one, idn_one, idn_0, idn_1, idn_2, par_one, u32_one, List.append_nil, Int.toNat_zero, Nat.sub_self, Int.reduceToNat, resRow, res_ro, rExtract_tup, tl_get, tl_set]
 rfl
set_option maxHeartbeats 1000000 in
set_option maxRecDepth 100000 in
theorem awakeC (F : Frm) : Contract F Tryz.prog 7 [] (fun r => r = .b true) := by
 refine contract_of Tryz.func7 rfl (by kernel_rfl) ?_
 simp only [Tryz.ntmps7, argEnv]
 (repeat refine Sat.seq ?_)
 (refine Sat.region_k fun k hk => ?_; simp -implicitDefEqProofs only [evr, id, seval, ev_one, exc_one, res_one, idn_one, idn_0, idn_1, idn_2, par_one, u32_one, resRow, res_ro, rExtract_tup, tl_get, tl_set, evn]; refine hk _ ?_; clear hk k; try show Sat _ _ _ _ _)
 (repeat refine Sat.seq ?_)
 (refine Sat.region_k fun k hk => ?_; simp -implicitDefEqProofs only [evr, id, seval, ev_one, exc_one, res_one, idn_one, idn_0, idn_1, idn_2, par_one, u32_one, resRow, res_ro, rExtract_tup, tl_get, tl_set, evn]; refine hk _ ?_; clear hk k; try show Sat _ _ _ _ _)
 (repeat refine Sat.seq ?_)
 (refine Sat.region_k fun k hk => ?_; simp -implicitDefEqProofs only [evr, id, seval, ev_one, exc_one, res_one, idn_one, idn_0, idn_1, idn_2, par_one, u32_one, resRow, res_ro, rExtract_tup, tl_get, tl_set, evn])
 refine wcall_plain (replyC F 0 0 1 167772161 (by decide) (by decide)) rfl (by rintro _ rfl; exact resAg_ok _) ?_
 rintro _ rfl
 simp only [resAg, Res.cs, rplR, evr, id, seval, ev_one, exc_one, res_one, idn_one, idn_0, idn_1, idn_2, par_one, u32_one, List.append_nil, Int.toNat_zero, Nat.sub_self, Int.reduceToNat, resRow, res_ro, rExtract_tup, tl_get, tl_set]
 refine wcall_plain (replyC F 1 0 2 167772418 (by decide) (by decide)) rfl (by rintro _ rfl; exact resAg_ok _) ?_
 rintro _ rfl
 simp only [resAg, Res.cs, rplR, evr, id, seval, ev_one, exc_one, res_one, idn_one, idn_0, idn_1, idn_2, par_one, u32_one, List.append_nil, Int.toNat_zero, Nat.sub_self, Int.reduceToNat, resRow, res_ro, rExtract_tup, tl_get, tl_set]
 refine wcall_plain (replyC F 2 1 1 167772417 (by decide) (by decide)) rfl (by rintro _ rfl; exact resAg_ok _) ?_
 rintro _ rfl
 simp only [resAg, Res.cs, rplR, evr, id, seval, ev_one, exc_one, res_one, idn_one, idn_0, idn_1, idn_2, par_one, u32_one, List.append_nil, Int.toNat_zero, Nat.sub_self, Int.reduceToNat, resRow, res_ro, rExtract_tup, tl_get, tl_set]
 intro bs
 (refine hk _ ?_; clear hk k; try show Sat _ _ _ _ _)
 refine Sat.le (st' := ⟨105, [(4, .os 0 (some ⟨bs, 0, none⟩) 3 3), (3, .i .u32 167772417), (2, .i .u32 167772418), (1, .i .u32 167772161)], [.row (some ⟨bs, 0, none⟩) 62 3 3 17 (resRd awL.toArray)]⟩) ?_ (by
  simp -implicitDefEqProofs only [evr, id, seval, ev_one, exc_one, res_one, idn_one, idn_0, idn_1, idn_2, par_one, u32_one, resRow, res_ro, rExtract_tup, tl_get, tl_set, evl, evn]
  intro i j hi hj
  have hj' : j = 0 ∨ j = 1 ∨ j = 2 ∨ j = 3 ∨ j = 4 ∨ j = 5 ∨ j = 6 ∨ j = 7 ∨ j = 8 ∨ j = 9 ∨ j = 10 ∨ j = 11 ∨ j = 12 ∨ j = 13 ∨ j = 14 ∨ j = 15 ∨ j = 16 := by omega
  rcases (show i = 0 ∨ i = 1 ∨ i = 2 by omega) with rfl | rfl | rfl <;> rcases hj' with rfl | rfl | rfl | rfl | rfl | rfl | rfl | rfl | rfl | rfl | rfl | rfl | rfl | rfl | rfl | rfl | rfl <;> rfl)
 refine Sat.settleLastRow [] 4 rfl ?_
 (repeat refine Sat.seq ?_)
 (refine Sat.region_k fun k hk => ?_; simp -implicitDefEqProofs only [evr, id, seval, ev_one, exc_one, res_one, idn_one, idn_0, idn_1, idn_2, par_one, u32_one, resRow, res_ro, rExtract_tup, tl_get, tl_set, evn])
 refine wcall_slice (exPairsC F (some ⟨bs, 0, none⟩) 3 awL (by decide) awL_rg) rfl rfl ?_
 rintro r (⟨hbad, _⟩ | ⟨_, a2, c2, es, hes, hel, rfl⟩)
 ·rw [awL_valid] at hbad; cases hbad
 obtain rfl := awL_pairs hes
 simp -implicitDefEqProofs only [evr, id, seval, ev_one, exc_one, res_one, idn_one, idn_0, idn_1, idn_2, par_one, u32_one, resRow, res_ro, rExtract_tup, tl_get, tl_set, evn]
 (refine hk _ ?_; clear hk k; try show Sat _ _ _ _ _)
 (repeat refine Sat.seq ?_)
 (refine Sat.region_k fun k hk => ?_; simp -implicitDefEqProofs only [evr, id, seval, ev_one, exc_one, res_one, idn_one, idn_0, idn_1, idn_2, par_one, u32_one, resRow, res_ro, rExtract_tup, tl_get, tl_set, evn])
 refine wcall_slice (exMatesC F (some ⟨bs, 0, none⟩) 3 awL (by decide) awL_rg) rfl rfl ?_
 rintro r (⟨hbad, _⟩ | ⟨_, a3, c3, fs, hfs, hfl, rfl⟩)
 ·rw [awL_valid] at hbad; cases hbad
 obtain ⟨y, rfl, hC, hya, hyb, hyl⟩ : ∃ y, fs = [y] ∧ MatC awL y ∧ y.a = 167772161 ∧ y.b = 167772417 ∧ y.ids.length = 3 := by
  obtain ⟨h1, h2, h3, h4, h5⟩ := awL_mates hfs
  match fs, h1, h2, h3, h4, h5 with
  | [y], _, h2, h3, h4, h5 => exact ⟨y, rfl, h2, h3, h4, h5⟩
 simp -implicitDefEqProofs only [evr, id, seval, ev_one, exc_one, res_one, idn_one, idn_0, idn_1, idn_2, par_one, u32_one, resRow, res_ro, rExtract_tup, tl_get, tl_set, evn]
 (refine hk _ ?_; clear hk k; try show Sat _ _ _ _ _)
 have hc1 : Contract Frm.nil Tryz.prog 21 [.sl (some ⟨bs, 0, none⟩) 3 3 17 (resRd awL.toArray), .agg 8 fun j => excRd [mkExc (rplR 0 0 1 167772161) (rplR 1 0 2 167772418)].toArray 0 j] (fun r => r = .b true) := by
  have h9 := exHoldsC Frm.nil (some ⟨bs, 0, none⟩) 3 awL (mkExc (rplR 0 0 1 167772161) (rplR 1 0 2 167772418)) (by decide)
  have h8 : exHoldsV awL (mkExc (rplR 0 0 1 167772161) (rplR 1 0 2 167772418)) = true := exc_holds awL_one (hes.each _ (by simp)).1
  rw [h8] at h9
  exact h9
 have hc2 : Contract Frm.nil Tryz.prog 28 [.sl (some ⟨bs, 0, none⟩) 3 3 17 (resRd awL.toArray), .agg 4 fun j => evRd [y] 0 j] (fun r => r = .b true) := by
  have h9 := holdsMateC Frm.nil (some ⟨bs, 0, none⟩) 3 awL y (by decide) (by omega)
  rw [mat_holds awL_one hC] at h9
  exact h9
 have hc3 : Contract Frm.nil Tryz.prog 30 [.agg 17 fun j => resRd awL.toArray 0 j, .agg 17 fun j => resRd awL.toArray 1 j] (fun r => r = .b true) := by
  have h9 := folC Frm.nil (rplR 0 0 1 167772161) (rplR 1 0 2 167772418)
  rw [awL_f01] at h9
  exact h9
 obtain ⟨rd1, hrd1⟩ : ∃ rd, rd = excRd [mkExc (rplR 0 0 1 167772161) (rplR 1 0 2 167772418)].toArray := ⟨_, rfl⟩
 have q10 : rd1 0 0 = .i .u32 167772161 := by rw [hrd1]; rfl
 have q11 : rd1 0 1 = .i .u32 167772418 := by rw [hrd1]; rfl
 obtain ⟨rd2, hrd2⟩ : ∃ rd, rd = evRd [y] := ⟨_, rfl⟩
 have q21 : rd2 0 1 = .i .u32 167772161 := by rw [hrd2, ← hya]; rfl
 have q22 : rd2 0 2 = .i .u32 167772417 := by rw [hrd2, ← hyb]; rfl
 have q23 : rd2 0 3 = .sl y.ad 3 y.cap 3 (idnRd y.ids.toArray) := by
  have h8 : evRd [y] 0 3 = .sl y.ad y.ids.length y.cap 3 (idnRd y.ids.toArray) := rfl
  rw [hrd2, h8, hyl]
 rw [← hrd1] at hc1
 rw [← hrd2] at hc2
 simp only [← hrd1, ← hrd2, List.length_singleton]
 refine Sat.le (st' := ⟨105, [(8, .i .i64 0), (7, .sl a3 1 c3 4 rd2), (6, .i .i64 0), (5, .sl a2 1 c2 8 rd1), (4, .sl (some ⟨bs, 0, none⟩) 3 3 17 (resRd awL.toArray)), (3, .i .u32 167772417), (2, .i .u32 167772418), (1, .i .u32 167772161)], []⟩) ?_ (by simp -implicitDefEqProofs only [evr, id, seval, ev_one, exc_one, res_one, idn_one, idn_0, idn_1, idn_2, par_one, u32_one, resRow, res_ro, rExtract_tup, tl_get, tl_set, evl, evn])
 (repeat refine Sat.seq ?_)
 refine Sat.at ⟨105, [(0, .b true)], []⟩ ?_ ?_
 ·simp only [List.append_eq, List.cons_append, List.nil_append]
  refine Sat.region_qk (by kernel_rfl) (by kernel_rfl) fun k hk => ?_
  simp -implicitDefEqProofs only [evr, id, seval, ev_one, exc_one, res_one, idn_one, idn_0, idn_1, idn_2, par_one, u32_one, resRow, res_ro, rExtract_tup, tl_get, tl_set, q10, q11, q21, q22, q23, evn]
  refine qcall hc1 rfl (ok_plain rfl) ?_
  simp -implicitDefEqProofs only [evr, id, seval, ev_one, exc_one, res_one, idn_one, idn_0, idn_1, idn_2, par_one, u32_one, resRow, res_ro, rExtract_tup, tl_get, tl_set, q10, q11, q21, q22, q23, evn]
  refine qcall hc2 rfl (ok_plain rfl) ?_
  simp -implicitDefEqProofs only [evr, id, seval, ev_one, exc_one, res_one, idn_one, idn_0, idn_1, idn_2, par_one, u32_one, resRow, res_ro, rExtract_tup, tl_get, tl_set, q10, q11, q21, q22, q23, evn]
  refine qcall hc3 rfl (ok_plain rfl) ?_
  simp -implicitDefEqProofs only [evr, id, seval, ev_one, exc_one, res_one, idn_one, idn_0, idn_1, idn_2, par_one, u32_one, resRow, res_ro, rExtract_tup, tl_get, tl_set, q10, q11, q21, q22, q23, evn]
  refine hk _ ?_
  simp only [thenK]
  simp -implicitDefEqProofs only [evr, id, seval, ev_one, exc_one, res_one, idn_one, idn_0, idn_1, idn_2, par_one, u32_one, resRow, res_ro, rExtract_tup, tl_get, tl_set, evl, evn]
 simp only [thenK, blockK]
 refine Sat.ret ?_
 simp only [Tryz.results7, evr, id, seval, ev_one, exc_one, res_one, idn_one, idn_0, idn_1, idn_2, par_one, u32_one, List.append_nil, Int.toNat_zero, Nat.sub_self, Int.reduceToNat, resRow, res_ro, rExtract_tup, tl_get, tl_set]
end Go.Proofs.YtfeiiadligkamaaGreat


/- The reference of traces, by the evaluator: Usable. -/
namespace Go.Proofs.YtfeiiadligkamaaGreat
open Go.Sort Eng
set_option maxRecDepth 100000 in
theorem usableG (F : Frm) (x : Res) : Contract F Tryz.prog 153 [resAg x] (fun r => r = .b (usableR x)) := by
 refine contract_of Tryz.func153 rfl (by kernel_rfl) ?_
 simp only [Tryz.ntmps153, argEnv, resAg, Res.cs]
 (repeat refine Sat.seq ?_)
 (refine Sat.region_k fun k hk => ?_; simp -implicitDefEqProofs only [evr, id, seval, res_one, res_ro, tre_eql, resRow, evn])
 intro blk1
 (refine hk _ ?_; clear hk k; try show Sat _ _ _ _ _)
 (repeat refine Sat.seq ?_)
 refine Sat.at ⟨10, [(2, .b (usableR x))], []⟩ ?_ ?_
 ·(refine Sat.region_k fun k hk => ?_; simp -implicitDefEqProofs only [evr, id, seval, res_one, res_ro, tre_eql, resRow, evn])
  refine wcall_plain (validG F x) rfl (by rintro _ rfl; exact ok_plain rfl) ?_
  rintro r rfl
  simp -implicitDefEqProofs only [evr, id, seval, res_one, res_ro, tre_eql, resRow, evn]
  refine ⟨fun h1 => hk _ ?_, fun h1 => hk _ ?_⟩
  ·have e : usableR x = !x.doubled := by simp only [usableR, h1, Bool.and_true]
   simp only [thenK, e]
   simp -implicitDefEqProofs only [evr, id, seval, res_one, res_ro, tre_eql, resRow, evl, evn]
  ·have e : usableR x = false := by simp only [usableR, h1, Bool.and_false]
   simp only [thenK, e]
   simp -implicitDefEqProofs only [evr, id, seval, res_one, res_ro, tre_eql, resRow, evl, evn]
 simp only [thenK, blockK]
 refine Sat.ret ?_
 simp only [Tryz.results153, evr, id, seval, res_one, res_ro, List.append_nil, Int.toNat_zero, Nat.sub_self, Int.reduceToNat, tre_eql, resRow]
end Go.Proofs.YtfeiiadligkamaaGreat


/- The reference of episodes, by the evaluator: Contradict, Consistent, Witness. -/
namespace Go.Proofs.YtfeiiadligkamaaGreat
open Go.Sort Eng
theorem getB_mem {xs : List Res} {i : Nat} (h : i < xs.length) : xs.toArray[i]! ∈ xs := by rw [getB h]; exact List.getElem_mem h
theorem contra_parts (x y : Res) : contraR x y = (usableR x && (usableR y && (x.answered && (y.answered && (decide ((⟨x.vantage, x.dst, x.proto⟩ : Tre) = ⟨y.vantage, y.dst, y.proto⟩) && ((x.flow == y.flow) && ((x.ttl == y.ttl) && (x.from_ != y.from_)))))))) := by
 rw [Bool.eq_iff_iff, contraR_iff]
 simp only [placedR, Res.spot, Bool.and_eq_true, decide_eq_true_eq, beq_iff_eq, bne_iff_ne, Tre.mk.injEq, List.cons.injEq, and_true]
 constructor
 ·rintro ⟨⟨h1, h2⟩, ⟨h3, h4⟩, ⟨h5, h6, h7, h8, h9⟩, h10⟩
  exact ⟨h2, h4, h1, h3, ⟨h5, h6, h7⟩, h8, h9, h10⟩
 ·rintro ⟨h2, h4, h1, h3, ⟨h5, h6, h7⟩, h8, h9, h10⟩
  exact ⟨⟨h1, h2⟩, ⟨h3, h4⟩, ⟨h5, h6, h7, h8, h9⟩, h10⟩
set_option maxHeartbeats 1000000 in
set_option maxRecDepth 100000 in
theorem contradictG (F : Frm) (x y : Res) : Contract F Tryz.prog 110 [resAg x, resAg y] (fun r => r = .b (contraR x y)) := by
 refine contract_of Tryz.func110 rfl (by kernel_rfl) ?_
 simp only [Tryz.ntmps110, argEnv, resAg, Res.cs]
 have e0 := contra_parts x y
 (repeat refine Sat.seq ?_)
 (refine Sat.region_k fun k hk => ?_; simp -implicitDefEqProofs only [evr, id, seval, res_one, res_ro, tre_eql, resRow, evn])
 intro blk1 blk2
 (refine hk _ ?_; clear hk k; try show Sat _ _ _ _ _)
 (repeat refine Sat.seq ?_)
 refine Sat.at ⟨49, [(4, .b (contraR x y))], []⟩ ?_ ?_
 ·(refine Sat.region_qk (by kernel_rfl) (by kernel_rfl) fun k hk => ?_; simp -implicitDefEqProofs only [evr, id, seval, res_one, res_ro, tre_eql, resRow, evn])
  refine qcall (usableG Frm.nil x) rfl (ok_plain rfl) ?_
  simp -implicitDefEqProofs only [evr, id, seval, res_one, res_ro, tre_eql, resRow, evn]
  refine ⟨fun h1 => ?_, fun h1 => hk _ ?_⟩
  ·refine qcall (usableG Frm.nil y) rfl (ok_plain rfl) ?_
   simp -implicitDefEqProofs only [evr, id, seval, res_one, res_ro, tre_eql, resRow, evn]
   refine ⟨fun h2 => ⟨fun h3 => ⟨fun h4 => ?_, fun h4 => hk _ ?_⟩, fun h3 => hk _ ?_⟩, fun h2 => hk _ ?_⟩
   ·refine qcall (traceOfG Frm.nil x) rfl (trcAg_ok _) ?_
    simp -implicitDefEqProofs only [evr, id, seval, res_one, res_ro, tre_eql, resRow, evn]
    refine qcall (traceOfG Frm.nil y) rfl (trcAg_ok _) ?_
    simp only [trcAg, evr, id, seval, res_one, res_ro, List.append_nil, Int.toNat_zero, Nat.sub_self, Int.reduceToNat, tre_eql, resRow]
    refine ⟨fun h5 => ⟨fun h6 => ⟨fun h7 => hk _ ?_, fun h7 => hk _ ?_⟩, fun h6 => hk _ ?_⟩, fun h5 => hk _ ?_⟩
    ·have e : contraR x y = (x.from_ != y.from_) := by rw [e0, h1, h2, h3, h4, decide_eq_true h5, h6, h7]; rfl
     simp only [thenK, e]
     simp -implicitDefEqProofs only [evr, id, seval, res_one, res_ro, tre_eql, resRow, evl, evn]
    ·have e : contraR x y = false := by rw [e0, h1, h2, h3, h4, decide_eq_true h5, h6, h7]; rfl
     simp only [thenK, e]
     simp -implicitDefEqProofs only [evr, id, seval, res_one, res_ro, tre_eql, resRow, evl, evn]
    ·have e : contraR x y = false := by rw [e0, h1, h2, h3, h4, decide_eq_true h5, h6]; rfl
     simp only [thenK, e]
     simp -implicitDefEqProofs only [evr, id, seval, res_one, res_ro, tre_eql, resRow, evl, evn]
    ·have e : contraR x y = false := by rw [e0, h1, h2, h3, h4, decide_eq_false h5]; rfl
     simp only [thenK, e]
     simp -implicitDefEqProofs only [evr, id, seval, res_one, res_ro, tre_eql, resRow, evl, evn]
   ·have e : contraR x y = false := by rw [e0, h1, h2, h3, h4]; rfl
    simp only [thenK, e]
    simp -implicitDefEqProofs only [evr, id, seval, res_one, res_ro, tre_eql, resRow, evl, evn]
   ·have e : contraR x y = false := by rw [e0, h1, h2, h3]; rfl
    simp only [thenK, e]
    simp -implicitDefEqProofs only [evr, id, seval, res_one, res_ro, tre_eql, resRow, evl, evn]
   ·have e : contraR x y = false := by rw [e0, h1, h2]; rfl
    simp only [thenK, e]
    simp -implicitDefEqProofs only [evr, id, seval, res_one, res_ro, tre_eql, resRow, evl, evn]
  ·have e : contraR x y = false := by rw [e0, h1]; rfl
   simp only [thenK, e]
   simp -implicitDefEqProofs only [evr, id, seval, res_one, res_ro, tre_eql, resRow, evl, evn]
 simp only [thenK, blockK]
 refine Sat.ret ?_
 simp only [Tryz.results110, evr, id, seval, res_one, res_ro, List.append_nil, Int.toNat_zero, Nat.sub_self, Int.reduceToNat, tre_eql, resRow]
set_option maxRecDepth 100000 in
theorem consistentG (F : Frm) (ad : Option Addr) (cap : Nat) (xs : List Res) (hl : xs.length ≤ 1000000000) :
  Contract F Tryz.prog 76 [.sl ad xs.length cap 17 (resRd xs.toArray)] (fun r => ∃ b, (b = true ↔ ∀ a ∈ xs, ∀ c ∈ xs, contraR a c = false) ∧ r = .b b) := by
 refine contract_of Tryz.func76 rfl (by kernel_rfl) ?_
 simp only [Tryz.ntmps76, argEnv]
 (repeat refine Sat.seq ?_)
 (refine Sat.region_k fun k hk => ?_; simp -implicitDefEqProofs only [evr, id, seval, res_one, res_ro, tre_eql, resRow, evn]; refine hk _ ?_; clear hk k; try show Sat _ _ _ _ _)
 (repeat refine Sat.seq ?_)
 (refine Sat.region_k fun k hk => ?_; simp -implicitDefEqProofs only [evr, id, seval, res_one, res_ro, tre_eql, resRow, evn]; refine hk _ ?_; clear hk k; try show Sat _ _ _ _ _)
 (repeat refine Sat.seq ?_)
 refine Sat.block ?_
 refine Sat.loop (ι := Nat) (fun i => ⟨25, [(3, .i .i64 i), (0, .sl ad xs.length cap 17 (resRd xs.toArray))], []⟩)
  (fun i => i ≤ xs.length ∧ ∀ j k, j < k → k < i → contraR xs.toArray[j]! xs.toArray[k]! = false) (fun i => xs.length - i) 0 ⟨Nat.zero_le _, fun j k h1 h2 => absurd h2 (Nat.not_lt_zero _)⟩ (by simp -implicitDefEqProofs only [evr, id, seval, res_one, res_ro, tre_eql, resRow, evl, evn]; try rfl) ?_
 rintro i ⟨hi, hno⟩
 (repeat refine Sat.seq ?_)
 (refine Sat.region_k fun k hk => ?_; simp -implicitDefEqProofs only [evr, id, seval, res_one, res_ro, tre_eql, resRow, evn]; refine hk _ ?_; clear hk k; try show Sat _ _ _ _ _)
 (repeat refine Sat.seq ?_)
 refine Sat.cond_b rfl (fun h => ?_) (fun h => ?_)
 ·have h1 : i < xs.length := by simp only [decide_eq_true_eq] at h; omega
  have e2 : IntKind.i64.wrap ((i : Int) + 1) = ((i + 1 : Nat) : Int) := by rw [w64 (by omega)]; omega
  refine Sat.skip ?_
  simp only [thenK]
  (repeat refine Sat.seq ?_)
  refine Sat.block ?_
  (repeat refine Sat.seq ?_)
  (refine Sat.region_k fun k hk => ?_; simp -implicitDefEqProofs only [evr, id, seval, res_one, res_ro, tre_eql, resRow, evn]; refine hk _ ?_; clear hk k; try show Sat _ _ _ _ _)
  refine Sat.block ?_
  refine Sat.loop (ι := Nat) (fun k => ⟨25, [(4, .i .i64 k), (3, .i .i64 i), (0, .sl ad xs.length cap 17 (resRd xs.toArray))], []⟩)
   (fun k => k ≤ i ∧ ∀ j, j < k → contraR xs.toArray[j]! xs.toArray[i]! = false) (fun k => i - k) 0 ⟨Nat.zero_le _, fun j h => absurd h (Nat.not_lt_zero _)⟩ (by simp -implicitDefEqProofs only [evr, id, seval, res_one, res_ro, tre_eql, resRow, evl, evn]; try rfl) ?_
  rintro k ⟨hk1, hno2⟩
  (repeat refine Sat.seq ?_)
  (refine Sat.region_k fun k hk => ?_; simp -implicitDefEqProofs only [evr, id, seval, res_one, res_ro, tre_eql, resRow, evn]; refine hk _ ?_; clear hk k; try show Sat _ _ _ _ _)
  (repeat refine Sat.seq ?_)
  refine Sat.cond_b rfl (fun h => ?_) (fun h => ?_)
  ·have h2 : k < i := by simp only [decide_eq_true_eq] at h; omega
   have e3 : IntKind.i64.wrap ((k : Int) + 1) = ((k + 1 : Nat) : Int) := by rw [w64 (by omega)]; omega
   refine Sat.skip ?_
   simp only [thenK]
   (repeat refine Sat.seq ?_)
   refine Sat.block ?_
   (repeat refine Sat.seq ?_)
   refine Sat.region_qk (by kernel_rfl) (by kernel_rfl) fun k2 hk => ?_
   simp -implicitDefEqProofs only [evr, id, seval, res_one, res_ro, tre_eql, resRow, evn]
   refine ⟨by omega, by omega, ?_⟩
   refine qcall (contradictG Frm.nil xs.toArray[k]! xs.toArray[i]!) rfl (ok_plain rfl) ?_
   simp -implicitDefEqProofs only [evr, id, seval, res_one, res_ro, tre_eql, resRow, evn]
   refine hk _ ?_
   clear hk k2
   try show Sat _ _ _ _ _
   refine Sat.cond_b rfl (fun h3 => ?_) (fun h3 => ?_)
   ·(repeat refine Sat.seq ?_)
    (refine Sat.region_k fun k hk => ?_; simp -implicitDefEqProofs only [evr, id, seval, res_one, res_ro, tre_eql, resRow, evn]; refine hk _ ?_; clear hk k; try show Sat _ _ _ _ _)
    refine Sat.ret ?_
    simp only [thenK, blockK, Tryz.results76, evr, id, seval, res_one, res_ro, List.append_nil, Int.toNat_zero, Nat.sub_self, Int.reduceToNat, tre_eql, resRow]
    refine ⟨false, ⟨fun h => (by cases h), fun h => ?_⟩, rfl⟩
    rw [h _ (getB_mem (show k < xs.length by omega)) _ (getB_mem h1)] at h3
    cases h3
   ·refine Sat.skip ?_
    simp only [thenK, blockK, reduceIte]
    (repeat refine Sat.seq ?_)
    refine Sat.region_k fun k2 hk => ?_
    simp -implicitDefEqProofs only [evr, id, seval, res_one, res_ro, tre_eql, resRow, e3, evn]
    refine hk _ ?_
    simp only [thenK, blockK]
    refine ⟨k + 1, ⟨by omega, fun j hj => ?_⟩, by omega, ?_⟩
    ·rcases (show j < k ∨ j = k by omega) with h4 | rfl
     ·exact hno2 j h4
     ·exact h3
    ·simp -implicitDefEqProofs only [evr, id, seval, res_one, res_ro, tre_eql, resRow, evl, evn]
  ·have h2 : k = i := by simp only [decide_eq_false_iff_not] at h; omega
   subst h2
   refine Sat.exit ?_
   simp only [thenK, blockK, reduceIte]
   (repeat refine Sat.seq ?_)
   refine Sat.region_k fun k2 hk => ?_
   simp -implicitDefEqProofs only [evr, id, seval, res_one, res_ro, tre_eql, resRow, e2, evn]
   refine hk _ ?_
   simp only [thenK, blockK]
   refine ⟨k + 1, ⟨by omega, fun j q h4 h5 => ?_⟩, by omega, ?_⟩
   ·rcases (show q < k ∨ q = k by omega) with h6 | rfl
    ·exact hno j q h4 h6
    ·exact hno2 j h4
   ·simp -implicitDefEqProofs only [evr, id, seval, res_one, res_ro, tre_eql, resRow, evl, evn]
 ·have h1 : i = xs.length := by simp only [decide_eq_false_iff_not] at h; omega
  refine Sat.exit ?_
  simp only [thenK, blockK, reduceIte]
  (repeat refine Sat.seq ?_)
  (refine Sat.region_k fun k hk => ?_; simp -implicitDefEqProofs only [evr, id, seval, res_one, res_ro, tre_eql, resRow, evn]; refine hk _ ?_; clear hk k; try show Sat _ _ _ _ _)
  refine Sat.ret ?_
  simp only [Tryz.results76, evr, id, seval, res_one, res_ro, List.append_nil, Int.toNat_zero, Nat.sub_self, Int.reduceToNat, tre_eql, resRow]
  refine ⟨true, ⟨fun _ a ha c hc => ?_, fun _ => rfl⟩, rfl⟩
  obtain ⟨j, hj, rfl⟩ := List.mem_iff_getElem.1 ha
  obtain ⟨q, hq, rfl⟩ := List.mem_iff_getElem.1 hc
  rw [← getB hj, ← getB hq]
  rcases Nat.lt_trichotomy j q with h4 | h4 | h4
  ·exact hno j q h4 (by omega)
  ·subst h4; exact contraR_irrefl _
  ·rw [contraR_symm]; exact hno q j h4 (by omega)
end Go.Proofs.YtfeiiadligkamaaGreat


/- Choices, for the evaluator: Next as a contract, Roll as what makes them. -/
namespace Go.Proofs.YtfeiiadligkamaaGreat
open Go.RowKit Eng
def Frm.codes (cb : Nat) : Frm := ⟨fun b => b = cb, fun b => b = cb, Codes cb, fun _ h => h, fun w b h e => by subst e; exact h.lt, fun w w' B h hB hw => h.kept fun k hk => hw k (Nat.lt_of_le_of_lt hk (hB cb rfl))⟩
def ptr (cb : Nat) : SV := .v (.pointer (some ⟨cb, 0, none⟩))
theorem enters_of {P : Program} {f : FuncId} {fn : Func} {c : Code} (hf : P.funcs[f]? = some fn) (hb : fn.body = some c) (hname : (fn.name == "runtime.NumGoroutine") = false) : ∀ vs w, (callFunc f vs).run P w = .ok (.enter f vs) w := by
 intro vs w
 have hn : ¬ fn.name = "runtime.NumGoroutine" := by simpa using hname
 simp [callFunc, hf, hn, hb]
theorem nextC (cb : Nat) (n : Int) (h1 : -9223372036854775808 ≤ n) (h2 : n ≤ 9223372036854775807) : Contract (Frm.codes cb) Tryz.prog 23 [ptr cb, .i .i64 n] (fun r => ∃ x : Int, r = .i .i64 x ∧ 0 ≤ x ∧ (x < n ∨ x = 0)) := by
 refine ⟨enters_of Tryz.func23 rfl (by kernel_rfl), fun R w hinv _ hR => ?_⟩
 refine (next_calls cb n w hinv h1 h2).mono ?_
 rintro e w' ⟨r, rfl, hr0, hr1, hc, hg, hdr⟩
 exact ⟨.i .i64 r, rfl, ⟨r, rfl, hr0, hr1⟩, trivial, ⟨hg.os, hg.tape, hg.output, hg.size, fun b hb hm => hg.block b hb (fun e => hm (show b = cb by simpa using e)), hdr⟩, hc⟩
def isBytes (s : SV) : Prop := ∃ a len cap rd, s = .sl a len cap 1 rd ∧ ∀ i, i < len → ∃ x : Int, 0 ≤ x ∧ x < 256 ∧ rd i 0 = .i .u8 x
theorem new_made (a : Option Addr) (len cap : Nat) (w : World) (most : Nat) (h1 : len ≤ cap) (h2 : cap ≤ maxLen) (hm : most ≤ 65536) :
  Calls Tryz.prog 40 #[.slice a len cap, .int .i64 (most : Int)] w fun e w' => e = .returned (.pointer (some ⟨w.heap.size, 0, none⟩)) ∧ ∃ n, n ≤ len ∧ w' = w.alloc (.cells #[.slice a n cap, .int .i64 0] 114) := by
 unfold maxLen at h2
 by_cases hl : (most : Nat) < len
 ·go_enter Tryz.func40, Tryz.ntmps40
  go_wp2
  go_ret
  exact ⟨rfl, most, by omega, rfl⟩
 ·go_enter Tryz.func40, Tryz.ntmps40
  go_wp2
  go_ret
  exact ⟨rfl, len, by omega, rfl⟩
theorem roll_made (a : Option Addr) (len cap : Nat) (w : World) (h1 : len ≤ cap) (h2 : cap ≤ maxLen) :
  Calls Tryz.prog 8 #[.slice a len cap] w fun e w' => e = .returned (.pointer (some ⟨w.heap.size, 0, none⟩)) ∧ ∃ n, n ≤ len ∧ w' = w.alloc (.cells #[.slice a n cap, .int .i64 0] 114) := by
 have hc := fun w => new_made a len cap w 400 h1 h2 (by omega)
 have HC := Lib.hid hc
 clear hc h1 h2
 go_enter Tryz.func8, Tryz.ntmps8
 go_wp2_with fail
 refine (HC.out _).mono ?_
 rintro e w' ⟨rfl, n, hn, rfl⟩
 go_wp2
 go_ret
 exact ⟨rfl, n, hn, rfl⟩
theorem rollC (s : SV) (hs : isBytes s) : Makes Tryz.prog 8 [s] (fun cb w => Codes cb w) := by
 obtain ⟨a, len, cap, rd, rfl, hb⟩ := hs
 refine ⟨enters_of Tryz.func8 rfl (by kernel_rfl), fun R w hargs hR => ?_⟩
 obtain ⟨h1, h2, h3⟩ := hargs _ (List.mem_singleton.2 rfl)
 refine (roll_made a len cap w h1 h2).mono ?_
 rintro e w' ⟨rfl, n, hn, rfl⟩
 refine ⟨rfl, by simp, ⟨rfl, rfl, rfl, by simp, fun b hb _ => heap_alloc_old w _ hb, Nat.le_refl _⟩, fun w'' hw'' => ?_⟩
 refine ⟨a, n, cap, 0, (hw'' _ (.inr rfl)).trans (heap_alloc_new w _), by omega, Nat.zero_le _, ?_⟩
 rcases h3 with h3 | ⟨blk, off, rfl, hr, hc⟩
 ·exact .inl (by omega)
 ·have hlt := hR blk hr
  refine .inr ⟨blk, off, rfl, hlt, fun i hi => ?_⟩
  obtain ⟨x, hx0, hx1, hx⟩ := hb i (by omega)
  have h := (hc i 0 (by omega) (by omega)).1
  rw [hx, Nat.mul_one] at h
  exact ⟨x, hx0, hx1, by rw [World.cell?_of_block (w := w) (a := ⟨blk, off + i, none⟩) ((hw'' blk (.inl hr)).trans (heap_alloc_old w _ hlt))]; exact h⟩
end Go.Proofs.YtfeiiadligkamaaGreat


/- Choices: Pick, Bool, Address, by the evaluator. -/
namespace Go.Proofs.YtfeiiadligkamaaGreat
open Eng
set_option maxRecDepth 100000 in
theorem pickC (cb : Nat) (a : Option Addr) (len cap : Nat) (rd : Nat → Nat → SV) (Q : Int → Prop) (h0 : 0 < len) (h1 : len ≤ 1000) (hq : ∀ i, i < len → ∃ x : Int, rd i 0 = .i .i64 x ∧ Q x) :
  Contract (Frm.codes cb) Tryz.prog 42 [ptr cb, .sl a len cap 1 rd] (fun r => ∃ x : Int, r = .i .i64 x ∧ Q x) := by
 refine contract_of Tryz.func42 rfl (by kernel_rfl) ?_
 simp only [Tryz.ntmps42, argEnv, ptr]
 (repeat refine Sat.seq ?_)
 (refine Sat.region_k fun k hk => ?_; simp -implicitDefEqProofs only [evr, id, seval, ptr]; refine hk _ ?_; clear hk k; try show Sat _ _ _ _ _)
 (repeat refine Sat.seq ?_)
 (refine Sat.region_k fun k hk => ?_; simp -implicitDefEqProofs only [evr, id, seval, ptr])
 refine wcall_plain (nextC cb len (by omega) (by omega)) rfl (by rintro _ ⟨x, rfl, _⟩; exact ok_plain rfl) ?_
 rintro r ⟨x, rfl, hx0, hx1⟩
 obtain ⟨i, rfl⟩ := Int.eq_ofNat_of_zero_le hx0
 have hi : i < len := by omega
 obtain ⟨y, hy, hQ⟩ := hq i hi
 simp -implicitDefEqProofs only [evr, id, seval, ptr, hy]
 refine ⟨by omega, ?_⟩
 (refine hk _ ?_; clear hk k; try show Sat _ _ _ _ _)
 refine Sat.ret ?_
 simp only [Tryz.results42, evr, id, seval, ptr]
 exact ⟨y, rfl, hQ⟩
theorem pickI (cb blk : Nat) (xs : List Int) (Q : Int → Prop) (h0 : 0 < xs.length) (h1 : xs.length ≤ 1000) (hQ : ∀ x ∈ xs, Q x) :
  Contract (Frm.codes cb) Tryz.prog 42 [ptr cb, .sl (some ⟨blk, 0, none⟩) xs.length xs.length 1 (rdL (xs.map (SV.i .i64)) 1)] (fun r => ∃ x : Int, r = .i .i64 x ∧ Q x) :=
 pickC cb _ _ _ _ Q h0 h1 fun i hi => ⟨xs.getD i 0, by simp [rdL, List.getD, hi], hQ _ (getD_mem hi)⟩
theorem plain_pick {Q : Int → Prop} (r : SV) (h : ∃ x : Int, r = .i .i64 x ∧ Q x) : ∀ R w, r.ok R w := by
 obtain ⟨x, rfl, _⟩ := h; exact ok_plain rfl
theorem plain_bool (r : SV) (h : ∃ b : Bool, r = .b b) : ∀ R w, r.ok R w := by
 obtain ⟨x, rfl⟩ := h; exact ok_plain rfl
set_option maxRecDepth 100000 in
theorem boolC (cb : Nat) (n : Int) (h1 : 1 ≤ n) (h2 : n ≤ 1000000) : Contract (Frm.codes cb) Tryz.prog 10 [ptr cb, .i .i64 n] (fun r => ∃ b : Bool, r = .b b) := by
 refine contract_of Tryz.func10 rfl (by kernel_rfl) ?_
 simp only [Tryz.ntmps10, argEnv, ptr]
 (repeat refine Sat.seq ?_)
 (refine Sat.region_k fun k hk => ?_; simp -implicitDefEqProofs only [evr, id, seval, ptr]; refine hk _ ?_; clear hk k; try show Sat _ _ _ _ _)
 (repeat refine Sat.seq ?_)
 (refine Sat.region_k fun k hk => ?_; simp -implicitDefEqProofs only [evr, id, seval, ptr])
 refine wcall_plain (nextC cb n (by omega) (by omega)) rfl (by rintro _ ⟨x, rfl, _⟩; exact ok_plain rfl) ?_
 rintro r ⟨x, rfl, hx0, hx1⟩
 simp -implicitDefEqProofs only [evr, id, seval, ptr]
 (refine hk _ ?_; clear hk k; try show Sat _ _ _ _ _)
 refine Sat.ret ?_
 simp only [Tryz.results10, evr, id, seval, ptr]
 exact ⟨_, rfl⟩
end Go.Proofs.YtfeiiadligkamaaGreat


/- Addresses and paths that are drawn (of: Oracles, by the evaluator: dice.Address within its type, dice.Oracle. ) -/
namespace Go.Proofs.YtfeiiadligkamaaGreat
open Eng
def InA (x : Int) : Prop := 0 ≤ x ∧ x < 4294967296
structure PthP where
 a : Option Addr
 cap : Nat
 p : List Int
instance : Inhabited PthP := ⟨⟨none, 0, []⟩⟩
def adRd (p : List Int) : Nat → Nat → SV := fun i _ => .i .u32 (p.getD i 0)
def PthP.sv (q : PthP) : SV := .sl q.a q.p.length q.cap 1 (adRd q.p)
def psRd (l : List PthP) : Nat → Nat → SV := fun i _ => (l.getD i default).sv
def PsOk (m : Nat) (l : List PthP) : Prop := ∀ q ∈ l, q.p.length ≤ m ∧ ∀ x ∈ q.p, InA x
theorem ad_app {p : List Int} {x : Int} : rdEq (p.length + 1) 1 (rdCat p.length (adRd p) (rdL [.i .u32 x] 1)) (adRd (p ++ [x])) := by
 refine rdEq_snoc (fun i j hi hj => ?_) (fun j hj => ?_)
 ·unfold adRd
  simp [List.getD, List.getElem?_append, hi]
 ·obtain rfl : j = 0 := by omega
  unfold adRd
  simp [List.getD]
theorem ps_app {l : List PthP} {q : PthP} {s : SV} (h : s = q.sv) : rdEq (l.length + 1) 1 (rdCat l.length (psRd l) (rdL [s] 1)) (psRd (l ++ [q])) := by
 subst h
 refine rdEq_snoc (fun i j hi hj => ?_) (fun j hj => ?_)
 ·unfold psRd
  simp [List.getD, List.getElem?_append, hi]
 ·obtain rfl : j = 0 := by omega
  unfold psRd
  simp [List.getD]
theorem wrapA (x : Int) : InA (IntKind.u32.wrap x) := by
 have h : IntKind.u32.wrap x = x % 4294967296 := rfl
 unfold InA
 rw [h]
 omega
set_option maxRecDepth 100000 in
theorem addrC (cb : Nat) : Contract (Frm.codes cb) Tryz.prog 18 [ptr cb] (fun r => ∃ x : Int, InA x ∧ r = .i .u32 x) := by
 refine contract_of Tryz.func18 rfl (by kernel_rfl) ?_
 simp only [Tryz.ntmps18, argEnv, ptr]
 (repeat refine Sat.seq ?_)
 (refine Sat.region_k fun k hk => ?_; simp -implicitDefEqProofs only [evr, id, seval, ptr, PthP.sv, evn]; refine hk _ ?_; clear hk k; try show Sat _ _ _ _ _)
 (repeat refine Sat.seq ?_)
 (refine Sat.region_k fun k hk => ?_; simp -implicitDefEqProofs only [evr, id, seval, ptr, PthP.sv, evn])
 intro blk
 refine wcall_plain (pickI cb blk [1, 2, 5, 6, 9, 10, 12, 13] (fun _ => True) (by decide) (by decide) (by simp)) (by simp -implicitDefEqProofs only [evr, id, seval, ptr, PthP.sv, evn]) plain_pick ?_
 rintro r ⟨x, rfl, _⟩
 simp -implicitDefEqProofs only [evr, id, seval, ptr, PthP.sv, evn]
 (refine hk _ ?_; clear hk k; try show Sat _ _ _ _ _)
 refine Sat.ret ?_
 simp only [Tryz.results18, evr, id, seval, ptr, List.append_nil, Int.toNat_zero, Nat.sub_self, Int.reduceToNat, PthP.sv]
 exact ⟨_, wrapA _, rfl⟩
theorem plain_addrC (r : SV) (h : ∃ x : Int, InA x ∧ r = .i .u32 x) : ∀ R w, r.ok R w := by
 obtain ⟨x, _, rfl⟩ := h; exact ok_plain rfl
end Go.Proofs.YtfeiiadligkamaaGreat


/- Scenes, by the evaluator: dice.Proto, dice.Trace, dice.scene. -/
namespace Go.Proofs.YtfeiiadligkamaaGreat
open Eng
set_option maxRecDepth 100000 in
theorem protoC (cb : Nat) : Contract (Frm.codes cb) Tryz.prog 111 [ptr cb] (fun r => ∃ x : Int, (x = 17 ∨ x = 1 ∨ x = 6) ∧ r = .i .i64 x) := by
 refine contract_of Tryz.func111 rfl (by kernel_rfl) ?_
 simp only [Tryz.ntmps111, argEnv, ptr]
 (repeat refine Sat.seq ?_)
 (refine Sat.region_k fun k hk => ?_; simp -implicitDefEqProofs only [evr, id, reduceCtorEq, reduceIte, Nat.reduceMul, Nat.reduceAdd, Nat.reduceLT, Nat.reduceLeDiff, Nat.reduceEqDiff, Int.reduceLT, Int.reduceBEq, Int.reduceBNe, Nat.reduceBEq, ptr, Int.reduceToNat, evn]; refine hk _ ?_; clear hk k; try show Sat _ _ _ _ _)
 (repeat refine Sat.seq ?_)
 (refine Sat.region_k fun k hk => ?_; simp -implicitDefEqProofs only [evr, id, reduceCtorEq, reduceIte, Nat.reduceMul, Nat.reduceAdd, Nat.reduceLT, Nat.reduceLeDiff, Nat.reduceEqDiff, Int.reduceLT, Int.reduceBEq, Int.reduceBNe, Nat.reduceBEq, ptr, Int.reduceToNat, evn])
 intro blk
 refine wcall_plain (pickI cb blk [17, 1, 6] (fun x => x = 17 ∨ x = 1 ∨ x = 6) (by decide) (by decide) (by simp)) (by simp -implicitDefEqProofs only [evr, id, reduceCtorEq, reduceIte, Nat.reduceMul, Nat.reduceAdd, Nat.reduceLT, Nat.reduceLeDiff, Nat.reduceEqDiff, Int.reduceLT, Int.reduceBEq, Int.reduceBNe, Nat.reduceBEq, ptr, Int.reduceToNat, evn]) plain_pick ?_
 rintro r ⟨x, rfl, hx⟩
 simp -implicitDefEqProofs only [evr, id, reduceCtorEq, reduceIte, Nat.reduceMul, Nat.reduceAdd, Nat.reduceLT, Nat.reduceLeDiff, Nat.reduceEqDiff, Int.reduceLT, Int.reduceBEq, Int.reduceBNe, Nat.reduceBEq, ptr, Int.reduceToNat, evn]
 (refine hk _ ?_; clear hk k; try show Sat _ _ _ _ _)
 refine Sat.ret ?_
 simp only [Tryz.results111, evr, id, reduceCtorEq, reduceIte, Nat.reduceMul, Nat.reduceAdd, Nat.reduceLT, Nat.reduceLeDiff, Nat.reduceEqDiff, Int.reduceLT, Int.reduceBEq, Int.reduceBNe, Nat.reduceBEq, ptr, List.append_nil, Int.toNat_zero, Nat.sub_self, Int.reduceToNat]
 exact ⟨_, hx, rfl⟩
def trS (v d p : Int) : SV := .agg 3 fun j => [SV.i .i64 v, .i .u32 d, .i .i64 p].getD j default
theorem trS_ok (v d p : Int) (R : Nat → Prop) (w : World) : (trS v d p).ok R w := by
 intro j hj
 rcases (show j = 0 ∨ j = 1 ∨ j = 2 by omega) with rfl | rfl | rfl <;> trivial
set_option maxRecDepth 100000 in
theorem traceC (cb : Nat) : Contract (Frm.codes cb) Tryz.prog 77 [ptr cb] (fun r => ∃ v d p : Int, (0 ≤ v ∧ v ≤ 1) ∧ (InA d ∧ d ≠ 0) ∧ (p = 17 ∨ p = 1 ∨ p = 6) ∧ r = trS v d p) := by
 refine contract_of Tryz.func77 rfl (by kernel_rfl) ?_
 simp only [Tryz.ntmps77, argEnv, ptr]
 (repeat refine Sat.seq ?_)
 (refine Sat.region_k fun k hk => ?_; simp -implicitDefEqProofs only [evr, id, reduceCtorEq, reduceIte, Nat.reduceMul, Nat.reduceAdd, Nat.reduceLT, Nat.reduceLeDiff, Nat.reduceEqDiff, Int.reduceLT, Int.reduceBEq, Int.reduceBNe, Nat.reduceBEq, ptr, Int.reduceToNat, evn])
 intro blk
 (refine hk _ ?_; clear hk k; try show Sat _ _ _ _ _)
 (repeat refine Sat.seq ?_)
 (refine Sat.region_k fun k hk => ?_; simp -implicitDefEqProofs only [evr, id, reduceCtorEq, reduceIte, Nat.reduceMul, Nat.reduceAdd, Nat.reduceLT, Nat.reduceLeDiff, Nat.reduceEqDiff, Int.reduceLT, Int.reduceBEq, Int.reduceBNe, Nat.reduceBEq, ptr, Int.reduceToNat, evn])
 refine wcall_plain (nextC cb 2 (by omega) (by omega)) rfl (by rintro _ ⟨x, rfl, _⟩; exact ok_plain rfl) ?_
 rintro r ⟨v, rfl, hv0, hv1⟩
 simp -implicitDefEqProofs only [evr, id, reduceCtorEq, reduceIte, Nat.reduceMul, Nat.reduceAdd, Nat.reduceLT, Nat.reduceLeDiff, Nat.reduceEqDiff, Int.reduceLT, Int.reduceBEq, Int.reduceBNe, Nat.reduceBEq, ptr, Int.reduceToNat, evn]
 refine wcall_plain (nextC cb 3 (by omega) (by omega)) rfl (by rintro _ ⟨x, rfl, _⟩; exact ok_plain rfl) ?_
 rintro r ⟨d, rfl, hd0, hd1⟩
 simp -implicitDefEqProofs only [evr, id, reduceCtorEq, reduceIte, Nat.reduceMul, Nat.reduceAdd, Nat.reduceLT, Nat.reduceLeDiff, Nat.reduceEqDiff, Int.reduceLT, Int.reduceBEq, Int.reduceBNe, Nat.reduceBEq, ptr, Int.reduceToNat, evn]
 refine wcall_plain (protoC cb) rfl (by rintro _ ⟨x, _, rfl⟩; exact ok_plain rfl) ?_
 rintro r ⟨p, hp, rfl⟩
 simp -implicitDefEqProofs only [evr, id, reduceCtorEq, reduceIte, Nat.reduceMul, Nat.reduceAdd, Nat.reduceLT, Nat.reduceLeDiff, Nat.reduceEqDiff, Int.reduceLT, Int.reduceBEq, Int.reduceBNe, Nat.reduceBEq, ptr, Int.reduceToNat, evn]
 (refine hk _ ?_; clear hk k; try show Sat _ _ _ _ _)
 refine Sat.ret ?_
 simp only [Tryz.results77, evr, id, reduceCtorEq, reduceIte, Nat.reduceMul, Nat.reduceAdd, Nat.reduceLT, Nat.reduceLeDiff, Nat.reduceEqDiff, Int.reduceLT, Int.reduceBEq, Int.reduceBNe, Nat.reduceBEq, ptr, List.append_nil, Int.toNat_zero, Nat.sub_self, Int.reduceToNat]
 refine ⟨v, _, p, by omega, ⟨wrapA _, ?_⟩, hp, rfl⟩
 have ewd : IntKind.i64.wrap (167774464 + d) = 167774464 + d := w64 (by omega)
 rw [ewd, IntKind.wrap_u32]
 omega
structure Net where
 v : Int
 d : Int
 pr : Int
 a : Option Addr
 cap : Nat
 l : List PthP
 last : Int
instance : Inhabited Net := ⟨⟨0, 0, 0, none, 0, [], 0⟩⟩
def Net.cs (n : Net) : List SV := [.i .i64 n.v, .i .u32 n.d, .i .i64 n.pr, .sl n.a n.l.length n.cap 1 (psRd n.l), .i .u32 n.last]
structure NetOk (n : Net) : Prop where
 v : 0 ≤ n.v ∧ n.v ≤ 1
 d : InA n.d
 last : InA n.last
 some : 1 ≤ n.l.length ∧ n.l.length ≤ 3
 ps : PsOk 3 n.l
 d0 : n.d ≠ 0
 pr : n.pr = 17 ∨ n.pr = 1 ∨ n.pr = 6
set_option maxRecDepth 100000 in
theorem sceneC (cb : Nat) : Contract (Frm.codes cb) Tryz.prog 41 [ptr cb] (fun r => ∃ (n : Net) (f : Nat → SV), NetOk n ∧ r = .agg 5 f ∧ ∀ j, j < 5 → f j = n.cs.getD j default) := by
 refine contract_of Tryz.func41 rfl (by kernel_rfl) ?_
 simp only [Tryz.ntmps41, argEnv, ptr]
 (repeat refine Sat.seq ?_)
 (refine Sat.region_k fun k hk => ?_; simp -implicitDefEqProofs only [evr, id, reduceCtorEq, reduceIte, Nat.reduceMul, Nat.reduceAdd, Nat.reduceLT, Nat.reduceLeDiff, Nat.reduceEqDiff, Int.reduceLT, Int.reduceBEq, Int.reduceBNe, Nat.reduceBEq, ptr, Int.reduceToNat, evn])
 intro b2
 (refine hk _ ?_; clear hk k; try show Sat _ _ _ _ _)
 (repeat refine Sat.seq ?_)
 (refine Sat.region_k fun k hk => ?_; simp -implicitDefEqProofs only [evr, id, reduceCtorEq, reduceIte, Nat.reduceMul, Nat.reduceAdd, Nat.reduceLT, Nat.reduceLeDiff, Nat.reduceEqDiff, Int.reduceLT, Int.reduceBEq, Int.reduceBNe, Nat.reduceBEq, ptr, Int.reduceToNat, evn])
 refine wcall_plain (traceC cb) rfl (by rintro _ ⟨v, d, p, _, _, _, rfl⟩; exact trS_ok _ _ _) ?_
 rintro r ⟨v, d, p, hv, ⟨hd, hdn⟩, hpr, rfl⟩
 simp only [trS, evr, id, reduceCtorEq, reduceIte, Nat.reduceMul, Nat.reduceAdd, Nat.reduceLT, Nat.reduceLeDiff, Nat.reduceEqDiff, Int.reduceLT, Int.reduceBEq, Int.reduceBNe, Nat.reduceBEq, ptr, List.append_nil, Int.toNat_zero, Nat.sub_self, Int.reduceToNat]
 intro b3
 (refine hk _ ?_; clear hk k; try show Sat _ _ _ _ _)
 (repeat refine Sat.seq ?_)
 (refine Sat.region_k fun k hk => ?_; simp -implicitDefEqProofs only [evr, id, reduceCtorEq, reduceIte, Nat.reduceMul, Nat.reduceAdd, Nat.reduceLT, Nat.reduceLeDiff, Nat.reduceEqDiff, Int.reduceLT, Int.reduceBEq, Int.reduceBNe, Nat.reduceBEq, ptr, Int.reduceToNat, evn])
 (refine hk _ ?_; clear hk k; try show Sat _ _ _ _ _)
 (repeat refine Sat.seq ?_)
 (refine Sat.region_k fun k hk => ?_; simp -implicitDefEqProofs only [evr, id, reduceCtorEq, reduceIte, Nat.reduceMul, Nat.reduceAdd, Nat.reduceLT, Nat.reduceLeDiff, Nat.reduceEqDiff, Int.reduceLT, Int.reduceBEq, Int.reduceBNe, Nat.reduceBEq, ptr, Int.reduceToNat, evn])
 refine wcall_plain (boolC cb 4 (by decide) (by decide)) rfl plain_bool ?_
 rintro r ⟨q, rfl⟩
 simp -implicitDefEqProofs only [evr, id, reduceCtorEq, reduceIte, Nat.reduceMul, Nat.reduceAdd, Nat.reduceLT, Nat.reduceLeDiff, Nat.reduceEqDiff, Int.reduceLT, Int.reduceBEq, Int.reduceBNe, Nat.reduceBEq, ptr, Int.reduceToNat, evn]
 (refine hk _ ?_; clear hk k; try show Sat _ _ _ _ _)
 (repeat refine Sat.seq ?_)
 refine Sat.atF (ι := Int) (fun u => ⟨74, [(3, .op 1 b3 0), (2, .op 0 b2 0), (0, .v (.pointer (some ⟨cb, 0, none⟩)))], [Own.box b2 79 [.i .i64 0, .i .u32 0, .i .i64 0, .sl none 0 0 0 fun _ _ => .v undef, .i .u32 0], .box b3 79 [.i .i64 v, .i .u32 d, .i .i64 p, .sl none 0 0 0 fun _ _ => .v undef, .i .u32 u]]⟩) InA ?_ ?_
 ·refine Sat.cond_b rfl (fun h => ?_) (fun h => ?_)
  ·(refine Sat.region_k fun k hk => ?_; simp -implicitDefEqProofs only [evr, id, reduceCtorEq, reduceIte, Nat.reduceMul, Nat.reduceAdd, Nat.reduceLT, Nat.reduceLeDiff, Nat.reduceEqDiff, Int.reduceLT, Int.reduceBEq, Int.reduceBNe, Nat.reduceBEq, ptr, Int.reduceToNat, evn])
   refine wcall_plain (addrC cb) rfl plain_addrC ?_
   rintro r ⟨u, hu, rfl⟩
   simp -implicitDefEqProofs only [evr, id, reduceCtorEq, reduceIte, Nat.reduceMul, Nat.reduceAdd, Nat.reduceLT, Nat.reduceLeDiff, Nat.reduceEqDiff, Int.reduceLT, Int.reduceBEq, Int.reduceBNe, Nat.reduceBEq, ptr, Int.reduceToNat, evn]
   refine hk _ ?_
   simp only [thenK]
   refine ⟨u, hu, ?_⟩
   simp -implicitDefEqProofs only [evr, id, reduceCtorEq, reduceIte, Nat.reduceMul, Nat.reduceAdd, Nat.reduceLT, Nat.reduceLeDiff, Nat.reduceEqDiff, Int.reduceLT, Int.reduceBEq, Int.reduceBNe, Nat.reduceBEq, ptr, Int.reduceToNat, evl, evn]
  ·refine Sat.skip ?_
   simp only [thenK]
   refine ⟨d, hd, ?_⟩
   simp -implicitDefEqProofs only [evr, id, reduceCtorEq, reduceIte, Nat.reduceMul, Nat.reduceAdd, Nat.reduceLT, Nat.reduceLeDiff, Nat.reduceEqDiff, Int.reduceLT, Int.reduceBEq, Int.reduceBNe, Nat.reduceBEq, ptr, Int.reduceToNat, evl, evn]
 intro u hu
 simp only [thenK]
 (repeat refine Sat.seq ?_)
 (refine Sat.region_k fun k hk => ?_; simp -implicitDefEqProofs only [evr, id, reduceCtorEq, reduceIte, Nat.reduceMul, Nat.reduceAdd, Nat.reduceLT, Nat.reduceLeDiff, Nat.reduceEqDiff, Int.reduceLT, Int.reduceBEq, Int.reduceBNe, Nat.reduceBEq, ptr, Int.reduceToNat, evn])
 refine wcall_plain (nextC cb 3 (by omega) (by omega)) rfl (by rintro _ ⟨x, rfl, _⟩; exact ok_plain rfl) ?_
 rintro r ⟨x, rfl, hx0, hx1⟩
 obtain ⟨lg, hlg⟩ : ∃ lg : Nat, (lg : Int) = 1 + x := ⟨(1 + x).toNat, by omega⟩
 have hlg3 : lg ≤ 3 := by omega
 have e1 : IntKind.i64.wrap (1 + x) = (lg : Int) := by rw [w64 (by omega), hlg]
 simp -implicitDefEqProofs only [evr, id, reduceCtorEq, reduceIte, Nat.reduceMul, Nat.reduceAdd, Nat.reduceLT, Nat.reduceLeDiff, Nat.reduceEqDiff, Int.reduceLT, Int.reduceBEq, Int.reduceBNe, Nat.reduceBEq, ptr, Int.reduceToNat, e1, evn]
 (refine hk _ ?_; clear hk k; try show Sat _ _ _ _ _)
 (repeat refine Sat.seq ?_)
 (refine Sat.region_k fun k hk => ?_; simp -implicitDefEqProofs only [evr, id, reduceCtorEq, reduceIte, Nat.reduceMul, Nat.reduceAdd, Nat.reduceLT, Nat.reduceLeDiff, Nat.reduceEqDiff, Int.reduceLT, Int.reduceBEq, Int.reduceBNe, Nat.reduceBEq, ptr, Int.reduceToNat, evn]; refine hk _ ?_; clear hk k; try show Sat _ _ _ _ _)
 refine Sat.adoptBox 1 3 83 1 (psRd []) rfl rfl ?_
 simp -implicitDefEqProofs only [evr, id, reduceCtorEq, reduceIte, Nat.reduceMul, Nat.reduceAdd, Nat.reduceLT, Nat.reduceLeDiff, Nat.reduceEqDiff, Int.reduceLT, Int.reduceBEq, Int.reduceBNe, Nat.reduceBEq, ptr, Int.reduceToNat, evn]
 (repeat refine Sat.seq ?_)
 refine Sat.block ?_
 refine Sat.loop (ι := Nat × Option Addr × Nat × List PthP) (fun z => ⟨74, [(5, .i .i64 z.1), (4, .i .i64 lg), (3, .op 1 b3 0), (2, .op 0 b2 0), (0, .v (.pointer (some ⟨cb, 0, none⟩)))], [Own.box b2 79 [.i .i64 0, .i .u32 0, .i .i64 0, .sl none 0 0 0 fun _ _ => .v undef, .i .u32 0], .box b3 79 [.i .i64 v, .i .u32 d, .i .i64 p, .os 2 z.2.1 z.2.2.2.length z.2.2.1, .i .u32 u], .row z.2.1 83 z.2.2.2.length z.2.2.1 1 (psRd z.2.2.2)]⟩)
  (fun z => z.2.2.2.length = z.1 ∧ z.1 ≤ 3 ∧ PsOk 3 z.2.2.2) (fun z => 3 - z.1) (0, none, 0, []) ⟨rfl, by simp, fun q h => by cases h⟩ (by simp -implicitDefEqProofs only [evr, id, reduceCtorEq, reduceIte, Nat.reduceMul, Nat.reduceAdd, Nat.reduceLT, Nat.reduceLeDiff, Nat.reduceEqDiff, Int.reduceLT, Int.reduceBEq, Int.reduceBNe, Nat.reduceBEq, ptr, Int.reduceToNat, evl, evn]; first | rfl | trace_state) ?_
 rintro ⟨f, a, c, l⟩ ⟨hfl, hf3, hl⟩
 simp only at hfl hf3 hl ⊢
 (repeat refine Sat.seq ?_)
 (refine Sat.region_k fun k hk => ?_; simp -implicitDefEqProofs only [evr, id, reduceCtorEq, reduceIte, Nat.reduceMul, Nat.reduceAdd, Nat.reduceLT, Nat.reduceLeDiff, Nat.reduceEqDiff, Int.reduceLT, Int.reduceBEq, Int.reduceBNe, Nat.reduceBEq, ptr, Int.reduceToNat, evn])
 refine wcall_plain (nextC cb 3 (by omega) (by omega)) rfl (by rintro _ ⟨x, rfl, _⟩; exact ok_plain rfl) ?_
 rintro r ⟨x2, rfl, hy0, hy1⟩
 have e2 : IntKind.i64.wrap (1 + x2) = 1 + x2 := w64 (by omega)
 simp -implicitDefEqProofs only [evr, id, reduceCtorEq, reduceIte, Nat.reduceMul, Nat.reduceAdd, Nat.reduceLT, Nat.reduceLeDiff, Nat.reduceEqDiff, Int.reduceLT, Int.reduceBEq, Int.reduceBNe, Nat.reduceBEq, ptr, Int.reduceToNat, e2, evn]
 (refine hk _ ?_; clear hk k; try show Sat _ _ _ _ _)
 (repeat refine Sat.seq ?_)
 refine Sat.cond_b rfl (fun h => ?_) (fun h => ?_)
 ·have h1 : f < 3 := by simp only [decide_eq_true_eq] at h; omega
  have e3 : IntKind.i64.wrap ((f : Int) + 1) = ((f + 1 : Nat) : Int) := by rw [w64 (by omega)]; omega
  refine Sat.skip ?_
  simp only [thenK]
  (repeat refine Sat.seq ?_)
  refine Sat.block ?_
  (repeat refine Sat.seq ?_)
  (refine Sat.region_k fun k hk => ?_; simp -implicitDefEqProofs only [evr, id, reduceCtorEq, reduceIte, Nat.reduceMul, Nat.reduceAdd, Nat.reduceLT, Nat.reduceLeDiff, Nat.reduceEqDiff, Int.reduceLT, Int.reduceBEq, Int.reduceBNe, Nat.reduceBEq, ptr, Int.reduceToNat, evn]; refine hk _ ?_; clear hk k; try show Sat _ _ _ _ _)
  (repeat refine Sat.seq ?_)
  (refine Sat.region_k fun k hk => ?_; simp -implicitDefEqProofs only [evr, id, reduceCtorEq, reduceIte, Nat.reduceMul, Nat.reduceAdd, Nat.reduceLT, Nat.reduceLeDiff, Nat.reduceEqDiff, Int.reduceLT, Int.reduceBEq, Int.reduceBNe, Nat.reduceBEq, ptr, Int.reduceToNat, evn]; refine hk _ ?_; clear hk k; try show Sat _ _ _ _ _)
  refine Sat.adopt 6 25 1 (adRd []) rfl ?_
  (repeat refine Sat.seq ?_)
  refine Sat.block ?_
  refine Sat.loop (ι := Nat × Option Addr × Nat × List Int) (fun z => ⟨74, [(7, .i .i64 z.1), (6, .os 3 z.2.1 z.2.2.2.length z.2.2.1), (5, .i .i64 f), (4, .i .i64 lg), (3, .op 1 b3 0), (2, .op 0 b2 0), (0, .v (.pointer (some ⟨cb, 0, none⟩)))], [Own.box b2 79 [.i .i64 0, .i .u32 0, .i .i64 0, .sl none 0 0 0 fun _ _ => .v undef, .i .u32 0], .box b3 79 [.i .i64 v, .i .u32 d, .i .i64 p, .os 2 a l.length c, .i .u32 u], .row a 83 l.length c 1 (psRd l), .row z.2.1 25 z.2.2.2.length z.2.2.1 1 (adRd z.2.2.2)]⟩)
   (fun z => z.2.2.2.length = z.1 ∧ z.1 ≤ lg ∧ ∀ x ∈ z.2.2.2, InA x) (fun z => lg - z.1) (0, none, 0, []) ⟨rfl, by simp, fun q h => by cases h⟩ (by simp -implicitDefEqProofs only [evr, id, reduceCtorEq, reduceIte, Nat.reduceMul, Nat.reduceAdd, Nat.reduceLT, Nat.reduceLeDiff, Nat.reduceEqDiff, Int.reduceLT, Int.reduceBEq, Int.reduceBNe, Nat.reduceBEq, ptr, Int.reduceToNat, evl, evn]; first | rfl | trace_state) ?_
  rintro ⟨i, pa, pc, pl⟩ ⟨hpl, hi3, hpi⟩
  simp only at hpl hi3 hpi ⊢
  (repeat refine Sat.seq ?_)
  (refine Sat.region_k fun k hk => ?_; simp -implicitDefEqProofs only [evr, id, reduceCtorEq, reduceIte, Nat.reduceMul, Nat.reduceAdd, Nat.reduceLT, Nat.reduceLeDiff, Nat.reduceEqDiff, Int.reduceLT, Int.reduceBEq, Int.reduceBNe, Nat.reduceBEq, ptr, Int.reduceToNat, evn]; refine hk _ ?_; clear hk k; try show Sat _ _ _ _ _)
  (repeat refine Sat.seq ?_)
  refine Sat.cond_b rfl (fun h => ?_) (fun h => ?_)
  ·have h2 : i < lg := by simp only [decide_eq_true_eq] at h; omega
   have e4 : IntKind.i64.wrap ((i : Int) + 1) = ((i + 1 : Nat) : Int) := by rw [w64 (by omega)]; omega
   refine Sat.skip ?_
   simp only [thenK]
   (repeat refine Sat.seq ?_)
   refine Sat.block ?_
   (repeat refine Sat.seq ?_)
   (refine Sat.region_k fun k hk => ?_; simp -implicitDefEqProofs only [evr, id, reduceCtorEq, reduceIte, Nat.reduceMul, Nat.reduceAdd, Nat.reduceLT, Nat.reduceLeDiff, Nat.reduceEqDiff, Int.reduceLT, Int.reduceBEq, Int.reduceBNe, Nat.reduceBEq, ptr, Int.reduceToNat, evn])
   refine wcall_plain (addrC cb) rfl plain_addrC ?_
   rintro r ⟨y, hy, rfl⟩
   simp -implicitDefEqProofs only [evr, id, reduceCtorEq, reduceIte, Nat.reduceMul, Nat.reduceAdd, Nat.reduceLT, Nat.reduceLeDiff, Nat.reduceEqDiff, Int.reduceLT, Int.reduceBEq, Int.reduceBNe, Nat.reduceBEq, ptr, Int.reduceToNat, evn]
   (refine hk _ ?_; clear hk k; try show Sat _ _ _ _ _)
   (repeat refine Sat.seq ?_)
   (refine Sat.region_k fun k hk => ?_; simp -implicitDefEqProofs only [evr, id, reduceCtorEq, reduceIte, Nat.reduceMul, Nat.reduceAdd, Nat.reduceLT, Nat.reduceLeDiff, Nat.reduceEqDiff, Int.reduceLT, Int.reduceBEq, Int.reduceBNe, Nat.reduceBEq, ptr, Int.reduceToNat, evn])
   refine wcall_plain (boolC cb 6 (by decide) (by decide)) rfl plain_bool ?_
   rintro r ⟨q6, rfl⟩
   simp -implicitDefEqProofs only [evr, id, reduceCtorEq, reduceIte, Nat.reduceMul, Nat.reduceAdd, Nat.reduceLT, Nat.reduceLeDiff, Nat.reduceEqDiff, Int.reduceLT, Int.reduceBEq, Int.reduceBNe, Nat.reduceBEq, ptr, Int.reduceToNat, evn]
   (refine hk _ ?_; clear hk k; try show Sat _ _ _ _ _)
   (repeat refine Sat.seq ?_)
   refine Sat.atF (ι := Int) (fun w => ⟨74, [(8, .i .u32 w), (7, .i .i64 i), (6, .os 3 pa pl.length pc), (5, .i .i64 f), (4, .i .i64 lg), (3, .op 1 b3 0), (2, .op 0 b2 0), (0, .v (.pointer (some ⟨cb, 0, none⟩)))], [Own.box b2 79 [.i .i64 0, .i .u32 0, .i .i64 0, .sl none 0 0 0 fun _ _ => .v undef, .i .u32 0], .box b3 79 [.i .i64 v, .i .u32 d, .i .i64 p, .os 2 a l.length c, .i .u32 u], .row a 83 l.length c 1 (psRd l), .row pa 25 pl.length pc 1 (adRd pl)]⟩) InA ?_ ?_
   ·refine Sat.cond_b rfl (fun h => ?_) (fun h => ?_)
    ·(refine Sat.region_k fun k hk => ?_; simp -implicitDefEqProofs only [evr, id, reduceCtorEq, reduceIte, Nat.reduceMul, Nat.reduceAdd, Nat.reduceLT, Nat.reduceLeDiff, Nat.reduceEqDiff, Int.reduceLT, Int.reduceBEq, Int.reduceBNe, Nat.reduceBEq, ptr, Int.reduceToNat, evn])
     refine hk _ ?_
     simp only [thenK]
     refine ⟨0, ⟨by omega, by omega⟩, ?_⟩
     simp -implicitDefEqProofs only [evr, id, reduceCtorEq, reduceIte, Nat.reduceMul, Nat.reduceAdd, Nat.reduceLT, Nat.reduceLeDiff, Nat.reduceEqDiff, Int.reduceLT, Int.reduceBEq, Int.reduceBNe, Nat.reduceBEq, ptr, Int.reduceToNat, evl, evn]
    ·refine Sat.skip ?_
     simp only [thenK]
     refine ⟨y, hy, ?_⟩
     simp -implicitDefEqProofs only [evr, id, reduceCtorEq, reduceIte, Nat.reduceMul, Nat.reduceAdd, Nat.reduceLT, Nat.reduceLeDiff, Nat.reduceEqDiff, Int.reduceLT, Int.reduceBEq, Int.reduceBNe, Nat.reduceBEq, ptr, Int.reduceToNat, evl, evn]
   intro w hw
   simp only [thenK]
   (repeat refine Sat.seq ?_)
   obtain ⟨q, hq⟩ : ∃ q, q = l.getD 0 default := ⟨_, rfl⟩
   have hqs : psRd l 0 0 = .sl q.a q.p.length q.cap 1 (adRd q.p) := by rw [hq]; rfl
   refine Sat.atF (ι := Bool) (fun b => ⟨74, [(55, .b b), (8, .i .u32 w), (7, .i .i64 i), (6, .os 3 pa pl.length pc), (5, .i .i64 f), (4, .i .i64 lg), (3, .op 1 b3 0), (2, .op 0 b2 0), (0, .v (.pointer (some ⟨cb, 0, none⟩)))], [Own.box b2 79 [.i .i64 0, .i .u32 0, .i .i64 0, .sl none 0 0 0 fun _ _ => .v undef, .i .u32 0], .box b3 79 [.i .i64 v, .i .u32 d, .i .i64 p, .os 2 a l.length c, .i .u32 u], .row a 83 l.length c 1 (psRd l), .row pa 25 pl.length pc 1 (adRd pl)]⟩) (fun b => b = true → 0 < f ∧ i < q.p.length) ?_ ?_
   ·(refine Sat.region_k fun k hk => ?_; simp -implicitDefEqProofs only [evr, id, reduceCtorEq, reduceIte, Nat.reduceMul, Nat.reduceAdd, Nat.reduceLT, Nat.reduceLeDiff, Nat.reduceEqDiff, Int.reduceLT, Int.reduceBEq, Int.reduceBNe, Nat.reduceBEq, ptr, Int.reduceToNat, evn])
    simp -implicitDefEqProofs only [evr, id, reduceCtorEq, reduceIte, Nat.reduceMul, Nat.reduceAdd, Nat.reduceLT, Nat.reduceLeDiff, Nat.reduceEqDiff, Int.reduceLT, Int.reduceBEq, Int.reduceBNe, Nat.reduceBEq, ptr, Int.reduceToNat, hqs, evn]
    refine ⟨fun g1 => ⟨⟨by omega, by omega⟩, by omega, fun g2 => ?_, fun g2 => hk _ ?_⟩, fun g1 => hk _ ?_⟩
    ·refine wcall_plain (boolC cb 3 (by decide) (by decide)) rfl plain_bool ?_
     rintro r ⟨q7, rfl⟩
     simp -implicitDefEqProofs only [evr, id, reduceCtorEq, reduceIte, Nat.reduceMul, Nat.reduceAdd, Nat.reduceLT, Nat.reduceLeDiff, Nat.reduceEqDiff, Int.reduceLT, Int.reduceBEq, Int.reduceBNe, Nat.reduceBEq, ptr, Int.reduceToNat, evn]
     refine hk _ ?_
     simp only [thenK]
     refine ⟨!q7, fun _ => ⟨by omega, by omega⟩, ?_⟩
     simp -implicitDefEqProofs only [evr, id, reduceCtorEq, reduceIte, Nat.reduceMul, Nat.reduceAdd, Nat.reduceLT, Nat.reduceLeDiff, Nat.reduceEqDiff, Int.reduceLT, Int.reduceBEq, Int.reduceBNe, Nat.reduceBEq, ptr, Int.reduceToNat, evl, evn]
    ·simp only [thenK]
     refine ⟨false, fun h => (by cases h), ?_⟩
     simp -implicitDefEqProofs only [evr, id, reduceCtorEq, reduceIte, Nat.reduceMul, Nat.reduceAdd, Nat.reduceLT, Nat.reduceLeDiff, Nat.reduceEqDiff, Int.reduceLT, Int.reduceBEq, Int.reduceBNe, Nat.reduceBEq, ptr, Int.reduceToNat, evl, evn]
    ·simp only [thenK]
     refine ⟨false, fun h => (by cases h), ?_⟩
     simp -implicitDefEqProofs only [evr, id, reduceCtorEq, reduceIte, Nat.reduceMul, Nat.reduceAdd, Nat.reduceLT, Nat.reduceLeDiff, Nat.reduceEqDiff, Int.reduceLT, Int.reduceBEq, Int.reduceBNe, Nat.reduceBEq, ptr, Int.reduceToNat, evl, evn]
   intro b hb
   simp only [thenK]
   (repeat refine Sat.seq ?_)
   refine Sat.atF (ι := Int) (fun w2 => ⟨74, [(8, .i .u32 w2), (7, .i .i64 i), (6, .os 3 pa pl.length pc), (5, .i .i64 f), (4, .i .i64 lg), (3, .op 1 b3 0), (2, .op 0 b2 0), (0, .v (.pointer (some ⟨cb, 0, none⟩)))], [Own.box b2 79 [.i .i64 0, .i .u32 0, .i .i64 0, .sl none 0 0 0 fun _ _ => .v undef, .i .u32 0], .box b3 79 [.i .i64 v, .i .u32 d, .i .i64 p, .os 2 a l.length c, .i .u32 u], .row a 83 l.length c 1 (psRd l), .row pa 25 pl.length pc 1 (adRd pl)]⟩) InA ?_ ?_
   ·refine Sat.cond_b rfl (fun h => ?_) (fun h => ?_)
    ·obtain ⟨g1, g2⟩ := hb h
     (refine Sat.region_k fun k hk => ?_; simp -implicitDefEqProofs only [evr, id, reduceCtorEq, reduceIte, Nat.reduceMul, Nat.reduceAdd, Nat.reduceLT, Nat.reduceLeDiff, Nat.reduceEqDiff, Int.reduceLT, Int.reduceBEq, Int.reduceBNe, Nat.reduceBEq, ptr, Int.reduceToNat, evn])
     simp -implicitDefEqProofs only [evr, id, reduceCtorEq, reduceIte, Nat.reduceMul, Nat.reduceAdd, Nat.reduceLT, Nat.reduceLeDiff, Nat.reduceEqDiff, Int.reduceLT, Int.reduceBEq, Int.reduceBNe, Nat.reduceBEq, ptr, Int.reduceToNat, hqs, evn]
     refine ⟨⟨by omega, by omega⟩, by omega, by omega, ?_⟩
     refine hk _ ?_
     simp only [thenK]
     refine ⟨q.p.getD i 0, ?_, ?_⟩
     ·exact (hl q (by rw [hq]; exact getD_mem (by omega))).2 _ (getD_mem g2)
     ·simp -implicitDefEqProofs only [evr, id, reduceCtorEq, reduceIte, Nat.reduceMul, Nat.reduceAdd, Nat.reduceLT, Nat.reduceLeDiff, Nat.reduceEqDiff, Int.reduceLT, Int.reduceBEq, Int.reduceBNe, Nat.reduceBEq, ptr, Int.reduceToNat, evl, evn]
      rfl
    ·refine Sat.skip ?_
     simp only [thenK]
     refine ⟨w, hw, ?_⟩
     simp -implicitDefEqProofs only [evr, id, reduceCtorEq, reduceIte, Nat.reduceMul, Nat.reduceAdd, Nat.reduceLT, Nat.reduceLeDiff, Nat.reduceEqDiff, Int.reduceLT, Int.reduceBEq, Int.reduceBNe, Nat.reduceBEq, ptr, Int.reduceToNat, evl, evn]
   intro w2 hw2
   simp only [thenK, blockK]
   (repeat refine Sat.seq ?_)
   (refine Sat.region_k fun k hk => ?_; simp -implicitDefEqProofs only [evr, id, reduceCtorEq, reduceIte, Nat.reduceMul, Nat.reduceAdd, Nat.reduceLT, Nat.reduceLeDiff, Nat.reduceEqDiff, Int.reduceLT, Int.reduceBEq, Int.reduceBNe, Nat.reduceBEq, ptr, Int.reduceToNat, evn])
   intro b9
   refine ⟨⟨by unfold maxLen; omega, by omega⟩, fun a2 cap2 => ?_⟩
   (refine hk _ ?_; clear hk k; try show Sat _ _ _ _ _)
   refine Sat.region_k fun k hk => ?_
   simp -implicitDefEqProofs only [evr, id, reduceCtorEq, reduceIte, Nat.reduceMul, Nat.reduceAdd, Nat.reduceLT, Nat.reduceLeDiff, Nat.reduceEqDiff, Int.reduceLT, Int.reduceBEq, Int.reduceBNe, Nat.reduceBEq, ptr, Int.reduceToNat, e4, evn]
   refine hk _ ?_
   simp only [thenK, blockK]
   refine ⟨(i + 1, a2, cap2, pl ++ [w2]), ⟨by simp; omega, by simp only; omega, fun x hx => ?_⟩, by simp only; omega, ?_⟩
   ·rcases List.mem_append.1 hx with h | h
    ·exact hpi x h
    ·simp only [List.mem_singleton] at h; subst h; exact hw2
   ·simp only [List.length_append, List.length_singleton]
    simp -implicitDefEqProofs only [evr, id, reduceCtorEq, reduceIte, Nat.reduceMul, Nat.reduceAdd, Nat.reduceLT, Nat.reduceLeDiff, Nat.reduceEqDiff, Int.reduceLT, Int.reduceBEq, Int.reduceBNe, Nat.reduceBEq, ptr, Int.reduceToNat, evl, evn]
    exact ad_app
  ·refine Sat.exit ?_
   simp only [thenK, blockK, reduceIte]
   refine Sat.settle2 6 rfl rfl ?_
   simp -implicitDefEqProofs only [evr, id, reduceCtorEq, reduceIte, Nat.reduceMul, Nat.reduceAdd, Nat.reduceLT, Nat.reduceLeDiff, Nat.reduceEqDiff, Int.reduceLT, Int.reduceBEq, Int.reduceBNe, Nat.reduceBEq, ptr, Int.reduceToNat, evn]
   (refine Sat.region_k fun k hk => ?_; simp -implicitDefEqProofs only [evr, id, reduceCtorEq, reduceIte, Nat.reduceMul, Nat.reduceAdd, Nat.reduceLT, Nat.reduceLeDiff, Nat.reduceEqDiff, Int.reduceLT, Int.reduceBEq, Int.reduceBNe, Nat.reduceBEq, ptr, Int.reduceToNat, evn])
   intro b9
   refine ⟨⟨by unfold maxLen; omega, by omega⟩, fun a2 cap2 => ?_⟩
   (refine hk _ ?_; clear hk k; try show Sat _ _ _ _ _)
   refine Sat.region_k fun k hk => ?_
   simp -implicitDefEqProofs only [evr, id, reduceCtorEq, reduceIte, Nat.reduceMul, Nat.reduceAdd, Nat.reduceLT, Nat.reduceLeDiff, Nat.reduceEqDiff, Int.reduceLT, Int.reduceBEq, Int.reduceBNe, Nat.reduceBEq, ptr, Int.reduceToNat, e3, evn]
   refine hk _ ?_
   simp only [thenK, blockK]
   refine ⟨(f + 1, a2, cap2, l ++ [⟨pa, pc, pl⟩]), ⟨by simp; omega, by simp only; omega, fun x hx => ?_⟩, by simp only; omega, ?_⟩
   ·rcases List.mem_append.1 hx with h | h
    ·exact hl x h
    ·simp only [List.mem_singleton] at h; subst h; exact ⟨by simp only; omega, hpi⟩
   ·simp only [List.length_append, List.length_singleton]
    simp -implicitDefEqProofs only [evr, id, reduceCtorEq, reduceIte, Nat.reduceMul, Nat.reduceAdd, Nat.reduceLT, Nat.reduceLeDiff, Nat.reduceEqDiff, Int.reduceLT, Int.reduceBEq, Int.reduceBNe, Nat.reduceBEq, ptr, Int.reduceToNat, evl, evn]
    exact ps_app rfl
 ·refine Sat.exit ?_
  simp only [thenK, blockK, reduceIte]
  have hf0 : 0 < f := by
   simp only [decide_eq_false_iff_not] at h
   omega
  (repeat refine Sat.seq ?_)
  (refine Sat.region_k fun k hk => ?_; simp -implicitDefEqProofs only [evr, id, reduceCtorEq, reduceIte, Nat.reduceMul, Nat.reduceAdd, Nat.reduceLT, Nat.reduceLeDiff, Nat.reduceEqDiff, Int.reduceLT, Int.reduceBEq, Int.reduceBNe, Nat.reduceBEq, ptr, Int.reduceToNat, evn])
  (refine hk _ ?_; clear hk k; try show Sat _ _ _ _ _)
  refine Sat.ret ?_
  simp only [Tryz.results41, evr, id, reduceCtorEq, reduceIte, Nat.reduceMul, Nat.reduceAdd, Nat.reduceLT, Nat.reduceLeDiff, Nat.reduceEqDiff, Int.reduceLT, Int.reduceBEq, Int.reduceBNe, Nat.reduceBEq, ptr, List.append_nil, Int.toNat_zero, Nat.sub_self, Int.reduceToNat]
  refine ⟨⟨v, d, p, a, c, l, u⟩, _, ⟨hv, hd, hu, ⟨by simp only; omega, by simp only; omega⟩, hl, hdn, hpr⟩, rfl, fun j hj => ?_⟩
  rcases (show j = 0 ∨ j = 1 ∨ j = 2 ∨ j = 3 ∨ j = 4 by omega) with rfl | rfl | rfl | rfl | rfl <;> simp -implicitDefEqProofs only [evr, id, reduceCtorEq, reduceIte, Nat.reduceMul, Nat.reduceAdd, Nat.reduceLT, Nat.reduceLeDiff, Nat.reduceEqDiff, Int.reduceLT, Int.reduceBEq, Int.reduceBNe, Nat.reduceBEq, ptr, Int.reduceToNat, Net.cs, evn]
end Go.Proofs.YtfeiiadligkamaaGreat


/- Results, by the evaluator: dice.Results (of paths that may change, or not): each has a number of its own at its vantage. -/
namespace Go.Proofs.YtfeiiadligkamaaGreat
open Go.Sort Eng
def netRd (ns : List Net) : Nat → Nat → SV := fun i j => (Net.cs (ns.getD i default)).getD j default
theorem net_one (ns : List Net) (i j : Nat) (h : j < 5) : oneS (netRd ns i j) = true := by
 rcases (show j = 0 ∨ j = 1 ∨ j = 2 ∨ j = 3 ∨ j = 4 by omega) with rfl | rfl | rfl | rfl | rfl <;> rfl
theorem net_one1 {n : Net} {cs : List SV} (h : cs = n.cs) : rdEq 1 5 (rdL cs 5) (netRd [n]) := by
 subst h
 intro i j hi hj
 obtain rfl : i = 0 := by omega
 unfold rdL netRd
 simp
theorem net_two {n m : Net} : rdEq 2 5 (rdCat 1 (rdL n.cs 5) (rdL m.cs 5)) (netRd [n, m]) := by
 intro i j hi hj
 rcases (show i = 0 ∨ i = 1 by omega) with rfl | rfl <;> simp [rdCat, rdL, netRd]
def Net.with (n m : Net) : Net := ⟨n.v, n.d, n.pr, m.a, m.cap, m.l, n.last⟩
theorem NetOk.with {n m : Net} (h : NetOk n) (g : NetOk m) : NetOk (n.with m) := ⟨h.v, h.d, h.last, g.some, g.ps, h.d0, h.pr⟩
theorem net_set {ns : List Net} {i N : Nat} {m : Net} (hi : i < ns.length) : rdEq N 5 (rdSet (netRd ns) i 3 [.sl m.a m.l.length m.cap 1 (psRd m.l)]) (netRd (ns.set i ((ns.getD i default).with m))) := by
 intro p j hp hj
 unfold rdSet netRd
 by_cases e : p = i
 ·subst e
  have hg : (ns.set p ((ns.getD p default).with m)).getD p default = (ns.getD p default).with m := by simp [List.getD, hi]
  rw [hg]
  rcases (show j = 0 ∨ j = 1 ∨ j = 2 ∨ j = 3 ∨ j = 4 by omega) with rfl | rfl | rfl | rfl | rfl <;> simp [Net.cs, Net.with]
 ·have hg : (ns.set i ((ns.getD i default).with m)).getD p default = ns.getD p default := by simp [List.getD, Ne.symm e]
  rw [hg, if_neg (fun h => e h.1)]
theorem res_appS {ys : List Res} {x : Res} {cs : List SV} (h : simA cs (Res.cs x)) : ∀ i j, i < ys.length + 1 → j < 17 → sim (rdCat ys.length (resRd ys.toArray) (rdL cs 17) i j) (resRd (ys ++ [x]).toArray i j) := by
 intro i j hi hj
 unfold rdCat
 by_cases e : i < ys.length
 ·rw [if_pos e]
  have : resRd ys.toArray i j = resRd (ys ++ [x]).toArray i j := by unfold resRd; simp [getElem!_def, List.getElem?_append, e]
  rw [this]
  exact sim_refl _
 ·obtain rfl : i = ys.length := by omega
  rw [if_neg e]
  have e1 : resRd (ys ++ [x]).toArray ys.length j = (Res.cs x).getD j default := by unfold resRd; simp [getElem!_def]
  have e2 : rdL cs 17 (ys.length - ys.length) j = cs.getD j default := by unfold rdL; simp
  rw [e1, e2]
  exact simA_getD h j
structure RltI (xs : List Res) (n0 n1 : Nat) : Prop where
 inr : ∀ r ∈ xs, RgR r
 num : ∀ r ∈ xs, (r.vantage = 0 ∧ r.number < n0) ∨ (r.vantage = 1 ∧ r.number < n1)
 own : ∀ r ∈ xs, ∀ s ∈ xs, r.vantage = s.vantage → r.number = s.number → r = s
 val : ∀ r ∈ xs, validR r = true
 nd : xs.Pairwise fun r s => ¬ (r.vantage = s.vantage ∧ r.number = s.number)
theorem RltI.nil : RltI [] 0 0 := ⟨fun r h => (by cases h), fun r h => (by cases h), fun r h => (by cases h), fun r h => (by cases h), .nil⟩
theorem RltI.snoc0 {xs : List Res} {n0 n1 : Nat} {r : Res} (h : RltI xs n0 n1) (hr : RgR r) (hval : validR r = true) (hv : r.vantage = 0) (hn : r.number = n0) : RltI (xs ++ [r]) (n0 + 1) n1 := by
 refine ⟨fun s hs => ?_, fun s hs => ?_, fun s hs t ht e1 e2 => ?_, fun s hs => ?_, ?_⟩
 ·rcases List.mem_append.1 hs with hs | hs
  ·exact h.inr s hs
  ·rw [List.mem_singleton.1 hs]; exact hr
 ·rcases List.mem_append.1 hs with hs | hs
  ·rcases h.num s hs with ⟨a, b⟩ | ⟨a, b⟩
   ·exact .inl ⟨a, by omega⟩
   ·exact .inr ⟨a, b⟩
  ·rw [List.mem_singleton.1 hs]; exact .inl ⟨hv, by omega⟩
 ·rcases List.mem_append.1 hs with hs | hs <;> rcases List.mem_append.1 ht with ht | ht
  ·exact h.own s hs t ht e1 e2
  ·rw [List.mem_singleton.1 ht] at e1 e2
   rcases h.num s hs with ⟨a, b⟩ | ⟨a, b⟩ <;> omega
  ·rw [List.mem_singleton.1 hs] at e1 e2
   rcases h.num t ht with ⟨a, b⟩ | ⟨a, b⟩ <;> omega
  ·rw [List.mem_singleton.1 hs, List.mem_singleton.1 ht]
 ·rcases List.mem_append.1 hs with hs | hs
  ·exact h.val s hs
  ·rw [List.mem_singleton.1 hs]; exact hval
 ·refine List.pairwise_append.2 ⟨h.nd, List.pairwise_singleton _ _, fun s hs t ht e => ?_⟩
  rw [List.mem_singleton.1 ht] at e
  rcases h.num s hs with ⟨a, b⟩ | ⟨a, b⟩ <;> omega
theorem RltI.snoc1 {xs : List Res} {n0 n1 : Nat} {r : Res} (h : RltI xs n0 n1) (hr : RgR r) (hval : validR r = true) (hv : r.vantage = 1) (hn : r.number = n1) : RltI (xs ++ [r]) n0 (n1 + 1) := by
 refine ⟨fun s hs => ?_, fun s hs => ?_, fun s hs t ht e1 e2 => ?_, fun s hs => ?_, ?_⟩
 ·rcases List.mem_append.1 hs with hs | hs
  ·exact h.inr s hs
  ·rw [List.mem_singleton.1 hs]; exact hr
 ·rcases List.mem_append.1 hs with hs | hs
  ·rcases h.num s hs with ⟨a, b⟩ | ⟨a, b⟩
   ·exact .inl ⟨a, b⟩
   ·exact .inr ⟨a, by omega⟩
  ·rw [List.mem_singleton.1 hs]; exact .inr ⟨hv, by omega⟩
 ·rcases List.mem_append.1 hs with hs | hs <;> rcases List.mem_append.1 ht with ht | ht
  ·exact h.own s hs t ht e1 e2
  ·rw [List.mem_singleton.1 ht] at e1 e2
   rcases h.num s hs with ⟨a, b⟩ | ⟨a, b⟩ <;> omega
  ·rw [List.mem_singleton.1 hs] at e1 e2
   rcases h.num t ht with ⟨a, b⟩ | ⟨a, b⟩ <;> omega
  ·rw [List.mem_singleton.1 hs, List.mem_singleton.1 ht]
 ·rcases List.mem_append.1 hs with hs | hs
  ·exact h.val s hs
  ·rw [List.mem_singleton.1 hs]; exact hval
 ·refine List.pairwise_append.2 ⟨h.nd, List.pairwise_singleton _ _, fun s hs t ht e => ?_⟩
  rw [List.mem_singleton.1 ht] at e
  rcases h.num s hs with ⟨a, b⟩ | ⟨a, b⟩ <;> omega
theorem w64_inA {x : Int} (h : InA x) : w64i x = x := w64 ⟨by have := h.1; omega, by have := h.2; omega⟩
def AnsOk (b8 b9 : Bool) (fr kind left id quo : Int) : Prop :=
 (b8 = true ∧ fr ≠ 0 ∧ (1 ≤ kind ∧ kind ≤ 5) ∧ left = 60 ∧ (0 ≤ id ∧ id ≤ 65535) ∧ quo = 1) ∨ (b8 = false ∧ b9 = false ∧ fr = 0 ∧ kind = 0 ∧ left = 0 ∧ id = 0 ∧ quo = 0)
theorem rlt_valid {v num at' d pr fl ttl back fr kind left id quo : Int} {b8 b9 : Bool} (hv : 0 ≤ v ∧ v ≤ 1) (hn : 0 ≤ num ∧ num < 1000) (ha : 0 ≤ at' ∧ at' ≤ back ∧ back ≤ 1000000) (hd : d ≠ 0) (hp : pr = 17 ∨ pr = 1 ∨ pr = 6) (hf : 0 ≤ fl ∧ fl ≤ 3) (ht : 1 ≤ ttl ∧ ttl ≤ 4) (h : AnsOk b8 b9 fr kind left id quo) :
  validR ⟨v, 0, num, at', d, pr, fl, ttl, b8, b9, back, fr, kind, 0, left, id, quo⟩ = true := by
 have h1 : badRange ⟨v, 0, num, at', d, pr, fl, ttl, b8, b9, back, fr, kind, 0, left, id, quo⟩ = false := by
  unfold badRange idOk
  simp
  omega
 have h2 : badProto ⟨v, 0, num, at', d, pr, fl, ttl, b8, b9, back, fr, kind, 0, left, id, quo⟩ = false := by
  unfold badProto
  simp
  omega
 unfold validR chk
 rw [h1, h2]
 rcases h with ⟨rfl, hf, hk, rfl, hi, rfl⟩ | ⟨rfl, rfl, rfl, rfl, rfl, rfl, rfl⟩
 ·have h3 : badState ⟨v, 0, num, at', d, pr, fl, ttl, true, b9, back, fr, kind, 0, 60, id, 1⟩ = false := rfl
  have h4 : badAnswer ⟨v, 0, num, at', d, pr, fl, ttl, true, b9, back, fr, kind, 0, 60, id, 1⟩ = false := by
   unfold badAnswer octOk
   simp
   omega
  rw [h3, h4]
  simp [hd, hf]
 ·have h3 : badState ⟨v, 0, num, at', d, pr, fl, ttl, false, false, back, 0, 0, 0, 0, 0, 0⟩ = false := rfl
  have h4 : badAnswer ⟨v, 0, num, at', d, pr, fl, ttl, false, false, back, 0, 0, 0, 0, 0, 0⟩ = false := rfl
  rw [h3, h4]
  simp [hd]
structure RlP where
 k : Nat
 at_ : Int
 id : Int
 na : Option Addr
 nc : Nat
 ns : List Net
 ra : Option Addr
 rc : Nat
 xs : List Res
 n0 : Nat
 n1 : Nat
def numCs (n0 n1 : Nat) : List SV := [.i .i64 n0, .i .i64 n1, .i .i64 0, .i .i64 0, .i .i64 0, .i .i64 0, .i .i64 0, .i .i64 0, .i .i64 0, .i .i64 0, .i .i64 0, .i .i64 0, .i .i64 0, .i .i64 0, .i .i64 0, .i .i64 0]
def rlEnv (st : Bool) (cb most : Nat) (k : Nat) (at' id : Int) (bn : Nat) (ra : Option Addr) (rc rn : Nat) (na : Option Addr) (nc nn : Nat) : List (Nat × SV) :=
 [(12, .i .i64 k), (11, .op 1 bn 0), (10, .i .i64 id), (9, .i .i64 at'), (8, .os 2 ra rn rc), (7, .os 0 na nn nc), (0, .v (.pointer (some ⟨cb, 0, none⟩))), (1, .i .i64 most), (2, .b st)]
def rlOwn (bn : Nat) (na : Option Addr) (nc : Nat) (ns : List Net) (ra : Option Addr) (rc : Nat) (xs : List Res) (n0 n1 : Nat) (more : List Eng.Own) : List Eng.Own :=
 .row na 79 ns.length nc 5 (netRd ns) :: .box bn 82 (numCs n0 n1) :: .row ra 62 xs.length rc 17 (resRd xs.toArray) :: more
def RlOk (most m : Nat) (z : RlP) : Prop := z.xs.length + z.k ≤ most ∧ z.ns.length = m ∧ (∀ n ∈ z.ns, NetOk n) ∧ RltI z.xs z.n0 z.n1 ∧ z.n0 ≤ z.xs.length ∧ z.n1 ≤ z.xs.length ∧ (0 ≤ z.at_ ∧ z.at_ ≤ 50 + 70 * z.xs.length) ∧ (0 ≤ z.id ∧ z.id ≤ 70000 + 5 * z.xs.length)
def rlCs (v num at' d pr fl ttl : Int) (s8 s9 : SV) (back fr kind left id quoted : Int) : List SV := [.i .i64 v, .i .i64 0, .i .i64 num, .i .i64 at', .i .u32 d, .i .i64 pr, .i .i64 fl, .i .i64 ttl, s8, s9, .i .i64 back, .i .u32 fr, .i .i64 kind, .i .i64 0, .i .i64 left, .i .i64 id, .i .i64 quoted]
def rlBox (b14 b17 : Nat) (n : Net) (cs : List SV) : List Eng.Own := [.box b14 79 [.i .i64 n.v, .i .u32 n.d, .i .i64 n.pr, .sl n.a n.l.length n.cap 1 (psRd n.l), .i .u32 n.last], .box b17 62 cs]
set_option maxRecDepth 100000 in
set_option maxHeartbeats 4000000 in
theorem resultsC (st : Bool) (cb : Nat) (most : Nat) (hm : most ≤ 1000) :
  ContractN (Frm.codes cb) Tryz.prog 9 [ptr cb, .i .i64 most, .b st] (fun o => ∃ (a : Option Addr) (cap : Nat) (xs : List Res) (n0 n1 : Nat), RltI xs n0 n1 ∧ xs.length ≤ most ∧ o = resRow a xs.length cap xs.toArray) := by
 refine contractN_of Tryz.func9 rfl (by kernel_rfl) ?_
 simp only [Tryz.ntmps9, argEnv, ptr]
 (repeat refine Sat.seq ?_)
 (refine Sat.region_k fun k hk => ?_; simp -implicitDefEqProofs only [evr, id, reduceCtorEq, reduceIte, Nat.reduceMul, Nat.reduceAdd, Nat.reduceLT, Nat.reduceLeDiff, Nat.reduceEqDiff, Int.reduceLT, Int.reduceBEq, Int.reduceBNe, Nat.reduceBEq, ptr, res_one, Int.reduceToNat, resRow, net_one, rlEnv, rlOwn, numCs, rlCs, rlBox, evn]; refine hk _ ?_; clear hk k; try show Sat _ _ _ _ _)
 (repeat refine Sat.seq ?_)
 (refine Sat.region_k fun k hk => ?_; simp -implicitDefEqProofs only [evr, id, reduceCtorEq, reduceIte, Nat.reduceMul, Nat.reduceAdd, Nat.reduceLT, Nat.reduceLeDiff, Nat.reduceEqDiff, Int.reduceLT, Int.reduceBEq, Int.reduceBNe, Nat.reduceBEq, ptr, res_one, Int.reduceToNat, resRow, net_one, rlEnv, rlOwn, numCs, rlCs, rlBox, evn])
 refine wcall_slice (sceneC cb) rfl rfl ?_
 rintro r ⟨n, f, hn, rfl, hf⟩
 have f0 : f 0 = .i .i64 n.v := hf 0 (by omega)
 have f1 : f 1 = .i .u32 n.d := hf 1 (by omega)
 have f2 : f 2 = .i .i64 n.pr := hf 2 (by omega)
 have f3 : f 3 = .sl n.a n.l.length n.cap 1 (psRd n.l) := hf 3 (by omega)
 have f4 : f 4 = .i .u32 n.last := hf 4 (by omega)
 simp -implicitDefEqProofs only [evr, id, reduceCtorEq, reduceIte, Nat.reduceMul, Nat.reduceAdd, Nat.reduceLT, Nat.reduceLeDiff, Nat.reduceEqDiff, Int.reduceLT, Int.reduceBEq, Int.reduceBNe, Nat.reduceBEq, ptr, res_one, Int.reduceToNat, resRow, net_one, rlEnv, rlOwn, numCs, rlCs, rlBox, f0, f1, f2, f3, f4, evn]
 intro b7
 (refine hk _ ?_; clear hk k; try show Sat _ _ _ _ _)
 (repeat refine Sat.seq ?_)
 (refine Sat.region_k fun k hk => ?_; simp -implicitDefEqProofs only [evr, id, reduceCtorEq, reduceIte, Nat.reduceMul, Nat.reduceAdd, Nat.reduceLT, Nat.reduceLeDiff, Nat.reduceEqDiff, Int.reduceLT, Int.reduceBEq, Int.reduceBNe, Nat.reduceBEq, ptr, res_one, Int.reduceToNat, resRow, net_one, rlEnv, rlOwn, numCs, rlCs, rlBox, evn])
 refine wcall_plain (boolC cb 3 (by decide) (by decide)) rfl plain_bool ?_
 rintro r ⟨q, rfl⟩
 simp -implicitDefEqProofs only [evr, id, reduceCtorEq, reduceIte, Nat.reduceMul, Nat.reduceAdd, Nat.reduceLT, Nat.reduceLeDiff, Nat.reduceEqDiff, Int.reduceLT, Int.reduceBEq, Int.reduceBNe, Nat.reduceBEq, ptr, res_one, Int.reduceToNat, resRow, net_one, rlEnv, rlOwn, numCs, rlCs, rlBox, evn]
 (refine hk _ ?_; clear hk k; try show Sat _ _ _ _ _)
 (repeat refine Sat.seq ?_)
 refine Sat.atF (ι := Option Addr × Nat × List Net) (fun z => ⟨175, [(7, .os 0 z.1 z.2.2.length z.2.1), (0, .v (.pointer (some ⟨cb, 0, none⟩))), (1, .i .i64 most), (2, .b st)], [.row z.1 79 z.2.2.length z.2.1 5 (netRd z.2.2)]⟩) (fun z => (1 ≤ z.2.2.length ∧ z.2.2.length ≤ 2) ∧ ∀ m ∈ z.2.2, NetOk m) ?_ ?_
 ·refine Sat.cond_b rfl (fun h => ?_) (fun h => ?_)
  ·(refine Sat.region_k fun k hk => ?_; simp -implicitDefEqProofs only [evr, id, reduceCtorEq, reduceIte, Nat.reduceMul, Nat.reduceAdd, Nat.reduceLT, Nat.reduceLeDiff, Nat.reduceEqDiff, Int.reduceLT, Int.reduceBEq, Int.reduceBNe, Nat.reduceBEq, ptr, res_one, Int.reduceToNat, resRow, net_one, rlEnv, rlOwn, numCs, rlCs, rlBox, evn])
   refine wcall_slice (sceneC cb) rfl rfl ?_
   rintro r ⟨n2, g, hn2, rfl, hg⟩
   have g0 : g 0 = .i .i64 n2.v := hg 0 (by omega)
   have g1 : g 1 = .i .u32 n2.d := hg 1 (by omega)
   have g2 : g 2 = .i .i64 n2.pr := hg 2 (by omega)
   have g3 : g 3 = .sl n2.a n2.l.length n2.cap 1 (psRd n2.l) := hg 3 (by omega)
   have g4 : g 4 = .i .u32 n2.last := hg 4 (by omega)
   simp -implicitDefEqProofs only [evr, id, reduceCtorEq, reduceIte, Nat.reduceMul, Nat.reduceAdd, Nat.reduceLT, Nat.reduceLeDiff, Nat.reduceEqDiff, Int.reduceLT, Int.reduceBEq, Int.reduceBNe, Nat.reduceBEq, ptr, res_one, Int.reduceToNat, resRow, net_one, rlEnv, rlOwn, numCs, rlCs, rlBox, g0, g1, g2, g3, g4, evn]
   intro b8
   refine ⟨by unfold maxLen; omega, fun a2 cap2 => hk _ ?_⟩
   simp only [thenK]
   refine ⟨(a2, cap2, [n, n2]), ⟨⟨by simp, by simp⟩, fun m hm => ?_⟩, ?_⟩
   ·rcases List.mem_cons.1 hm with rfl | hm
    ·exact hn
    ·rw [List.mem_singleton.1 hm]; exact hn2
   ·simp -implicitDefEqProofs only [evr, id, reduceCtorEq, reduceIte, Nat.reduceMul, Nat.reduceAdd, Nat.reduceLT, Nat.reduceLeDiff, Nat.reduceEqDiff, Int.reduceLT, Int.reduceBEq, Int.reduceBNe, Nat.reduceBEq, ptr, res_one, Int.reduceToNat, resRow, net_one, rlEnv, rlOwn, numCs, rlCs, rlBox, evl, evn]
    exact net_two
  ·refine Sat.skip ?_
   simp only [thenK]
   refine ⟨(some ⟨b7, 0, none⟩, 1, [n]), ⟨⟨by simp, by simp⟩, fun m hm => by rw [List.mem_singleton.1 hm]; exact hn⟩, ?_⟩
   simp -implicitDefEqProofs only [evr, id, reduceCtorEq, reduceIte, Nat.reduceMul, Nat.reduceAdd, Nat.reduceLT, Nat.reduceLeDiff, Nat.reduceEqDiff, Int.reduceLT, Int.reduceBEq, Int.reduceBNe, Nat.reduceBEq, ptr, res_one, Int.reduceToNat, resRow, net_one, rlEnv, rlOwn, numCs, rlCs, rlBox, evl, evn]
   exact net_one1 rfl
 rintro ⟨na, nc, ns⟩ ⟨hns, hnok⟩
 simp only [thenK] at hns hnok ⊢
 (repeat refine Sat.seq ?_)
 (refine Sat.region_k fun k hk => ?_; simp -implicitDefEqProofs only [evr, id, reduceCtorEq, reduceIte, Nat.reduceMul, Nat.reduceAdd, Nat.reduceLT, Nat.reduceLeDiff, Nat.reduceEqDiff, Int.reduceLT, Int.reduceBEq, Int.reduceBNe, Nat.reduceBEq, ptr, res_one, Int.reduceToNat, resRow, net_one, rlEnv, rlOwn, numCs, rlCs, rlBox, evn]; refine hk _ ?_; clear hk k; try show Sat _ _ _ _ _)
 (repeat refine Sat.seq ?_)
 (refine Sat.region_k fun k hk => ?_; simp -implicitDefEqProofs only [evr, id, reduceCtorEq, reduceIte, Nat.reduceMul, Nat.reduceAdd, Nat.reduceLT, Nat.reduceLeDiff, Nat.reduceEqDiff, Int.reduceLT, Int.reduceBEq, Int.reduceBNe, Nat.reduceBEq, ptr, res_one, Int.reduceToNat, resRow, net_one, rlEnv, rlOwn, numCs, rlCs, rlBox, evn])
 refine wcall_plain (nextC cb 50 (by omega) (by omega)) rfl (by rintro _ ⟨x, rfl, _⟩; exact ok_plain rfl) ?_
 rintro r ⟨at0, rfl, ha0, ha1⟩
 simp -implicitDefEqProofs only [evr, id, reduceCtorEq, reduceIte, Nat.reduceMul, Nat.reduceAdd, Nat.reduceLT, Nat.reduceLeDiff, Nat.reduceEqDiff, Int.reduceLT, Int.reduceBEq, Int.reduceBNe, Nat.reduceBEq, ptr, res_one, Int.reduceToNat, resRow, net_one, rlEnv, rlOwn, numCs, rlCs, rlBox, evn]
 refine wcall_plain (nextC cb 700 (by omega) (by omega)) rfl (by rintro _ ⟨x, rfl, _⟩; exact ok_plain rfl) ?_
 rintro r ⟨id0, rfl, hb0, hb1⟩
 simp -implicitDefEqProofs only [evr, id, reduceCtorEq, reduceIte, Nat.reduceMul, Nat.reduceAdd, Nat.reduceLT, Nat.reduceLeDiff, Nat.reduceEqDiff, Int.reduceLT, Int.reduceBEq, Int.reduceBNe, Nat.reduceBEq, ptr, res_one, Int.reduceToNat, resRow, net_one, rlEnv, rlOwn, numCs, rlCs, rlBox, evn]
 have ew0 : IntKind.i64.wrap (100 * id0) = 100 * id0 := w64 (by omega)
 obtain ⟨id1, hid1, hid2, hid3⟩ : ∃ y, IntKind.i64.wrap (100 * id0) = y ∧ 0 ≤ y ∧ y ≤ 70000 := ⟨_, rfl, by rw [ew0]; omega, by rw [ew0]; omega⟩
 simp only [hid1]
 clear ew0 hid1
 (refine hk _ ?_; clear hk k; try show Sat _ _ _ _ _)
 (repeat refine Sat.seq ?_)
 (refine Sat.region_k fun k hk => ?_; simp -implicitDefEqProofs only [evr, id, reduceCtorEq, reduceIte, Nat.reduceMul, Nat.reduceAdd, Nat.reduceLT, Nat.reduceLeDiff, Nat.reduceEqDiff, Int.reduceLT, Int.reduceBEq, Int.reduceBNe, Nat.reduceBEq, ptr, res_one, Int.reduceToNat, resRow, net_one, rlEnv, rlOwn, numCs, rlCs, rlBox, evn])
 intro bn
 (refine hk _ ?_; clear hk k; try show Sat _ _ _ _ _)
 (repeat refine Sat.seq ?_)
 have e1 : IntKind.i64.wrap ((most : Int) + 1) = (most : Int) + 1 := w64 (by omega)
 (refine Sat.region_k fun k hk => ?_; simp -implicitDefEqProofs only [evr, id, reduceCtorEq, reduceIte, Nat.reduceMul, Nat.reduceAdd, Nat.reduceLT, Nat.reduceLeDiff, Nat.reduceEqDiff, Int.reduceLT, Int.reduceBEq, Int.reduceBNe, Nat.reduceBEq, ptr, res_one, Int.reduceToNat, resRow, net_one, rlEnv, rlOwn, numCs, rlCs, rlBox, evn])
 refine wcall_plain (nextC cb ((most : Int) + 1) (by omega) (by omega)) (by simp -implicitDefEqProofs only [evr, id, reduceCtorEq, reduceIte, Nat.reduceMul, Nat.reduceAdd, Nat.reduceLT, Nat.reduceLeDiff, Nat.reduceEqDiff, Int.reduceLT, Int.reduceBEq, Int.reduceBNe, Nat.reduceBEq, ptr, res_one, Int.reduceToNat, resRow, net_one, rlEnv, rlOwn, numCs, rlCs, rlBox, e1, evn]) (by rintro _ ⟨x, rfl, _⟩; exact ok_plain rfl) ?_
 rintro r ⟨x, rfl, hx0, hx1⟩
 obtain ⟨k0, rfl⟩ := Int.eq_ofNat_of_zero_le hx0
 simp -implicitDefEqProofs only [evr, id, reduceCtorEq, reduceIte, Nat.reduceMul, Nat.reduceAdd, Nat.reduceLT, Nat.reduceLeDiff, Nat.reduceEqDiff, Int.reduceLT, Int.reduceBEq, Int.reduceBNe, Nat.reduceBEq, ptr, res_one, Int.reduceToNat, resRow, net_one, rlEnv, rlOwn, numCs, rlCs, rlBox, evn]
 (refine hk _ ?_; clear hk k; try show Sat _ _ _ _ _)
 refine Sat.adopt 8 62 17 (resRd #[]) rfl ?_
 simp -implicitDefEqProofs only [evr, id, reduceCtorEq, reduceIte, Nat.reduceMul, Nat.reduceAdd, Nat.reduceLT, Nat.reduceLeDiff, Nat.reduceEqDiff, Int.reduceLT, Int.reduceBEq, Int.reduceBNe, Nat.reduceBEq, ptr, res_one, Int.reduceToNat, resRow, net_one, rlEnv, rlOwn, numCs, rlCs, rlBox, evn]
 refine Sat.block ?_
 refine Sat.loop (ι := RlP) (fun z => ⟨175, rlEnv st cb most z.k z.at_ z.id bn z.ra z.rc z.xs.length z.na z.nc z.ns.length, rlOwn bn z.na z.nc z.ns z.ra z.rc z.xs z.n0 z.n1 []⟩)
  (RlOk most ns.length) (fun z => z.k) ⟨k0, at0, id1, na, nc, ns, none, 0, [], 0, 0⟩ ⟨by simp only [List.length_nil]; omega, rfl, hnok, RltI.nil, Nat.le_refl _, Nat.le_refl _, ⟨by simp only; omega, by simp only; omega⟩, ⟨by simp only; omega, by simp only; omega⟩⟩ (by simp -implicitDefEqProofs only [evr, id, reduceCtorEq, reduceIte, Nat.reduceMul, Nat.reduceAdd, Nat.reduceLT, Nat.reduceLeDiff, Nat.reduceEqDiff, Int.reduceLT, Int.reduceBEq, Int.reduceBNe, Nat.reduceBEq, ptr, res_one, Int.reduceToNat, resRow, net_one, rlEnv, rlOwn, numCs, rlCs, rlBox, evl, evn]; first | rfl | trace_state) ?_
 have hm0 : ∃ m, m = ns.length := ⟨_, rfl⟩
 obtain ⟨m, hm0⟩ := hm0
 rw [← hm0] at hns ⊢
 clear hm0 hnok ns na nc
 rintro ⟨k1, at1, id2, na, nc, ns, ra, rc, xs, n0, n1⟩ ⟨hxk, hnl, hnok, hI, hn0, hn1, ⟨hat0, hat1⟩, ⟨hid0, hid1⟩⟩
 simp only [rlEnv, rlOwn, numCs] at hxk hnl hnok hI hn0 hn1 hat0 hat1 hid0 hid1 ⊢
 (repeat refine Sat.seq ?_)
 (refine Sat.region_k fun k hk => ?_; simp -implicitDefEqProofs only [evr, id, reduceCtorEq, reduceIte, Nat.reduceMul, Nat.reduceAdd, Nat.reduceLT, Nat.reduceLeDiff, Nat.reduceEqDiff, Int.reduceLT, Int.reduceBEq, Int.reduceBNe, Nat.reduceBEq, ptr, res_one, Int.reduceToNat, resRow, net_one, rlEnv, rlOwn, numCs, rlCs, rlBox, evn]; refine hk _ ?_; clear hk k; try show Sat _ _ _ _ _)
 (repeat refine Sat.seq ?_)
 refine Sat.cond_b rfl (fun h => ?_) (fun h => ?_)
 ·have h0 : 0 < k1 := by simp only [decide_eq_true_eq] at h; omega
  have e2 : IntKind.i64.wrap ((k1 : Int) - 1) = ((k1 - 1 : Nat) : Int) := by rw [w64 (by omega)]; omega
  refine Sat.skip ?_
  simp only [thenK]
  (repeat refine Sat.seq ?_)
  refine Sat.block ?_
  (repeat refine Sat.seq ?_)
  (refine Sat.region_k fun k hk => ?_; simp -implicitDefEqProofs only [evr, id, reduceCtorEq, reduceIte, Nat.reduceMul, Nat.reduceAdd, Nat.reduceLT, Nat.reduceLeDiff, Nat.reduceEqDiff, Int.reduceLT, Int.reduceBEq, Int.reduceBNe, Nat.reduceBEq, ptr, res_one, Int.reduceToNat, resRow, net_one, rlEnv, rlOwn, numCs, rlCs, rlBox, evn])
  refine wcall_plain (nextC cb ns.length (by omega) (by omega)) (by simp -implicitDefEqProofs only [evr, id, reduceCtorEq, reduceIte, Nat.reduceMul, Nat.reduceAdd, Nat.reduceLT, Nat.reduceLeDiff, Nat.reduceEqDiff, Int.reduceLT, Int.reduceBEq, Int.reduceBNe, Nat.reduceBEq, ptr, res_one, Int.reduceToNat, resRow, net_one, rlEnv, rlOwn, numCs, rlCs, rlBox, evn]) (by rintro _ ⟨x, rfl, _⟩; exact ok_plain rfl) ?_
  rintro r ⟨x, rfl, hi0, hi1⟩
  obtain ⟨i, rfl⟩ := Int.eq_ofNat_of_zero_le hi0
  have hi : i < ns.length := by omega
  simp -implicitDefEqProofs only [evr, id, reduceCtorEq, reduceIte, Nat.reduceMul, Nat.reduceAdd, Nat.reduceLT, Nat.reduceLeDiff, Nat.reduceEqDiff, Int.reduceLT, Int.reduceBEq, Int.reduceBNe, Nat.reduceBEq, ptr, res_one, Int.reduceToNat, resRow, net_one, rlEnv, rlOwn, numCs, rlCs, rlBox, evn]
  (refine hk _ ?_; clear hk k; try show Sat _ _ _ _ _)
  (repeat refine Sat.seq ?_)
  refine Sat.joinK (ι := Bool) (fun q => ⟨175, (51, .b q) :: (13, .i .i64 i) :: rlEnv st cb most k1 at1 id2 bn ra rc xs.length na nc ns.length, rlOwn bn na nc ns ra rc xs n0 n1 []⟩) (fun _ => True) (fun hrest => ?_) ?_
  ·(refine Sat.region_k fun k hk => ?_; simp -implicitDefEqProofs only [evr, id, reduceCtorEq, reduceIte, Nat.reduceMul, Nat.reduceAdd, Nat.reduceLT, Nat.reduceLeDiff, Nat.reduceEqDiff, Int.reduceLT, Int.reduceBEq, Int.reduceBNe, Nat.reduceBEq, ptr, res_one, Int.reduceToNat, resRow, net_one, rlEnv, rlOwn, numCs, rlCs, rlBox, evn])
   refine ⟨fun hs => ?_, fun hs => ?_⟩
   ·refine wcall_plain (boolC cb 12 (by decide) (by decide)) rfl plain_bool ?_
    rintro r ⟨q2, rfl⟩
    simp -implicitDefEqProofs only [evr, id, reduceCtorEq, reduceIte, Nat.reduceMul, Nat.reduceAdd, Nat.reduceLT, Nat.reduceLeDiff, Nat.reduceEqDiff, Int.reduceLT, Int.reduceBEq, Int.reduceBNe, Nat.reduceBEq, ptr, res_one, Int.reduceToNat, resRow, net_one, rlEnv, rlOwn, numCs, rlCs, rlBox, evn]
    refine hk _ ?_
    simp only [thenK]
    refine (hrest q2 trivial).le ?_
    simp only [rlEnv, rlOwn, numCs]
    simp -implicitDefEqProofs only [evr, id, reduceCtorEq, reduceIte, Nat.reduceMul, Nat.reduceAdd, Nat.reduceLT, Nat.reduceLeDiff, Nat.reduceEqDiff, Int.reduceLT, Int.reduceBEq, Int.reduceBNe, Nat.reduceBEq, ptr, res_one, Int.reduceToNat, resRow, net_one, rlEnv, rlOwn, numCs, rlCs, rlBox, evl, evn]
   ·refine hk _ ?_
    simp only [thenK]
    refine (hrest false trivial).le ?_
    simp only [rlEnv, rlOwn, numCs]
    simp -implicitDefEqProofs only [evr, id, reduceCtorEq, reduceIte, Nat.reduceMul, Nat.reduceAdd, Nat.reduceLT, Nat.reduceLeDiff, Nat.reduceEqDiff, Int.reduceLT, Int.reduceBEq, Int.reduceBNe, Nat.reduceBEq, ptr, res_one, Int.reduceToNat, resRow, net_one, rlEnv, rlOwn, numCs, rlCs, rlBox, evl, evn]
  rintro q2 -
  simp only [rlEnv, rlOwn, numCs]
  (repeat refine Sat.seq ?_)
  refine Sat.atF (ι := List Net) (fun z => ⟨175, (13, .i .i64 i) :: rlEnv st cb most k1 at1 id2 bn ra rc xs.length na nc ns.length, rlOwn bn na nc z ra rc xs n0 n1 []⟩) (fun z => z.length = ns.length ∧ ∀ n ∈ z, NetOk n) ?_ ?_
  ·refine Sat.cond_b rfl (fun h => ?_) (fun h => ?_)
   ·(refine Sat.region_k fun k hk => ?_; simp -implicitDefEqProofs only [evr, id, reduceCtorEq, reduceIte, Nat.reduceMul, Nat.reduceAdd, Nat.reduceLT, Nat.reduceLeDiff, Nat.reduceEqDiff, Int.reduceLT, Int.reduceBEq, Int.reduceBNe, Nat.reduceBEq, ptr, res_one, Int.reduceToNat, resRow, net_one, rlEnv, rlOwn, numCs, rlCs, rlBox, evn])
    refine wcall_slice (sceneC cb) rfl rfl ?_
    rintro r ⟨n2, g, hn2, rfl, hg⟩
    have g3 : g 3 = .sl n2.a n2.l.length n2.cap 1 (psRd n2.l) := hg 3 (by omega)
    simp -implicitDefEqProofs only [evr, id, reduceCtorEq, reduceIte, Nat.reduceMul, Nat.reduceAdd, Nat.reduceLT, Nat.reduceLeDiff, Nat.reduceEqDiff, Int.reduceLT, Int.reduceBEq, Int.reduceBNe, Nat.reduceBEq, ptr, res_one, Int.reduceToNat, resRow, net_one, rlEnv, rlOwn, numCs, rlCs, rlBox, g3, evn]
    refine ⟨by omega, by omega, hk _ ?_⟩
    simp only [thenK]
    refine ⟨ns.set i ((ns.getD i default).with n2), ⟨by simp, fun n hn => ?_⟩, ?_⟩
    ·rcases List.mem_or_eq_of_mem_set hn with h | h
     ·exact hnok n h
     ·subst h; exact (hnok _ (getD_mem hi)).with hn2
    ·simp only [rlOwn, List.length_set]
     simp -implicitDefEqProofs only [evr, id, reduceCtorEq, reduceIte, Nat.reduceMul, Nat.reduceAdd, Nat.reduceLT, Nat.reduceLeDiff, Nat.reduceEqDiff, Int.reduceLT, Int.reduceBEq, Int.reduceBNe, Nat.reduceBEq, ptr, res_one, Int.reduceToNat, resRow, net_one, rlEnv, rlOwn, numCs, rlCs, rlBox, evl, evn]
     exact net_set hi
   ·refine Sat.skip ?_
    simp only [thenK]
    refine ⟨ns, ⟨rfl, hnok⟩, ?_⟩
    simp -implicitDefEqProofs only [evr, id, reduceCtorEq, reduceIte, Nat.reduceMul, Nat.reduceAdd, Nat.reduceLT, Nat.reduceLeDiff, Nat.reduceEqDiff, Int.reduceLT, Int.reduceBEq, Int.reduceBNe, Nat.reduceBEq, ptr, res_one, Int.reduceToNat, resRow, net_one, rlEnv, rlOwn, numCs, rlCs, rlBox, evl, evn]
  intro zs
  rintro ⟨hzl, hzok⟩
  simp only [thenK, rlEnv, rlOwn, numCs]
  rw [← hzl] at hnl hi ⊢
  obtain ⟨n, hn⟩ : ∃ n, n = zs.getD i default := ⟨_, rfl⟩
  have hnk : NetOk n := by rw [hn]; exact hzok _ (getD_mem hi)
  have p0 : netRd zs i 0 = .i .i64 n.v := by rw [hn]; rfl
  have p1 : netRd zs i 1 = .i .u32 n.d := by rw [hn]; rfl
  have p2 : netRd zs i 2 = .i .i64 n.pr := by rw [hn]; rfl
  have p3 : netRd zs i 3 = .sl n.a n.l.length n.cap 1 (psRd n.l) := by rw [hn]; rfl
  have p4 : netRd zs i 4 = .i .u32 n.last := by rw [hn]; rfl
  have hnl1 := hnk.some
  (repeat refine Sat.seq ?_)
  (refine Sat.region_k fun k hk => ?_; simp -implicitDefEqProofs only [evr, id, reduceCtorEq, reduceIte, Nat.reduceMul, Nat.reduceAdd, Nat.reduceLT, Nat.reduceLeDiff, Nat.reduceEqDiff, Int.reduceLT, Int.reduceBEq, Int.reduceBNe, Nat.reduceBEq, ptr, res_one, Int.reduceToNat, resRow, net_one, rlEnv, rlOwn, numCs, rlCs, rlBox, evn])
  simp only [p0, p1, p2, p3, p4, evr, id, reduceCtorEq, reduceIte, Nat.reduceMul, Nat.reduceAdd, Nat.reduceLT, Nat.reduceLeDiff, Nat.reduceEqDiff, Int.reduceLT, Int.reduceBEq, Int.reduceBNe, Nat.reduceBEq, ptr, res_one, List.append_nil, Int.toNat_zero, Nat.sub_self, Int.reduceToNat, resRow, net_one, rlEnv, rlOwn, numCs, rlCs, rlBox]
  refine ⟨by omega, by omega, ?_⟩
  intro b14
  (refine hk _ ?_; clear hk k; try show Sat _ _ _ _ _)
  (repeat refine Sat.seq ?_)
  (refine Sat.region_k fun k hk => ?_; simp -implicitDefEqProofs only [evr, id, reduceCtorEq, reduceIte, Nat.reduceMul, Nat.reduceAdd, Nat.reduceLT, Nat.reduceLeDiff, Nat.reduceEqDiff, Int.reduceLT, Int.reduceBEq, Int.reduceBNe, Nat.reduceBEq, ptr, res_one, Int.reduceToNat, resRow, net_one, rlEnv, rlOwn, numCs, rlCs, rlBox, evn])
  refine wcall_plain (nextC cb n.l.length (by omega) (by omega)) (by simp -implicitDefEqProofs only [evr, id, reduceCtorEq, reduceIte, Nat.reduceMul, Nat.reduceAdd, Nat.reduceLT, Nat.reduceLeDiff, Nat.reduceEqDiff, Int.reduceLT, Int.reduceBEq, Int.reduceBNe, Nat.reduceBEq, ptr, res_one, Int.reduceToNat, resRow, net_one, rlEnv, rlOwn, numCs, rlCs, rlBox, evn]) (by rintro _ ⟨x, rfl, _⟩; exact ok_plain rfl) ?_
  rintro r ⟨x, rfl, hf0, hf1⟩
  obtain ⟨fl, rfl⟩ := Int.eq_ofNat_of_zero_le hf0
  have hfl : fl < n.l.length := by omega
  simp -implicitDefEqProofs only [evr, id, reduceCtorEq, reduceIte, Nat.reduceMul, Nat.reduceAdd, Nat.reduceLT, Nat.reduceLeDiff, Nat.reduceEqDiff, Int.reduceLT, Int.reduceBEq, Int.reduceBNe, Nat.reduceBEq, ptr, res_one, Int.reduceToNat, resRow, net_one, rlEnv, rlOwn, numCs, rlCs, rlBox, evn]
  (refine hk _ ?_; clear hk k; try show Sat _ _ _ _ _)
  obtain ⟨pq, hpq⟩ : ∃ pq, pq = n.l.getD fl default := ⟨_, rfl⟩
  have hps : psRd n.l fl 0 = .sl pq.a pq.p.length pq.cap 1 (adRd pq.p) := by rw [hpq]; rfl
  have hpok := hnk.ps pq (by rw [hpq]; exact getD_mem hfl)
  have hpl3 := hpok.1
  (repeat refine Sat.seq ?_)
  (refine Sat.region_k fun k hk => ?_; simp -implicitDefEqProofs only [evr, id, reduceCtorEq, reduceIte, Nat.reduceMul, Nat.reduceAdd, Nat.reduceLT, Nat.reduceLeDiff, Nat.reduceEqDiff, Int.reduceLT, Int.reduceBEq, Int.reduceBNe, Nat.reduceBEq, ptr, res_one, Int.reduceToNat, resRow, net_one, rlEnv, rlOwn, numCs, rlCs, rlBox, evn])
  simp only [hps, evr, id, reduceCtorEq, reduceIte, Nat.reduceMul, Nat.reduceAdd, Nat.reduceLT, Nat.reduceLeDiff, Nat.reduceEqDiff, Int.reduceLT, Int.reduceBEq, Int.reduceBNe, Nat.reduceBEq, ptr, res_one, List.append_nil, Int.toNat_zero, Nat.sub_self, Int.reduceToNat, resRow, net_one, rlEnv, rlOwn, numCs, rlCs, rlBox]
  refine ⟨by omega, ?_⟩
  (refine hk _ ?_; clear hk k; try show Sat _ _ _ _ _)
  (repeat refine Sat.seq ?_)
  (refine Sat.region_k fun k hk => ?_; simp -implicitDefEqProofs only [evr, id, reduceCtorEq, reduceIte, Nat.reduceMul, Nat.reduceAdd, Nat.reduceLT, Nat.reduceLeDiff, Nat.reduceEqDiff, Int.reduceLT, Int.reduceBEq, Int.reduceBNe, Nat.reduceBEq, ptr, res_one, Int.reduceToNat, resRow, net_one, rlEnv, rlOwn, numCs, rlCs, rlBox, evn])
  refine wcall_plain (nextC cb 40 (by omega) (by omega)) rfl (by rintro _ ⟨x, rfl, _⟩; exact ok_plain rfl) ?_
  rintro r ⟨x40, rfl, hc0, hc1⟩
  simp -implicitDefEqProofs only [evr, id, reduceCtorEq, reduceIte, Nat.reduceMul, Nat.reduceAdd, Nat.reduceLT, Nat.reduceLeDiff, Nat.reduceEqDiff, Int.reduceLT, Int.reduceBEq, Int.reduceBNe, Nat.reduceBEq, ptr, res_one, Int.reduceToNat, resRow, net_one, rlEnv, rlOwn, numCs, rlCs, rlBox, evn]
  have ew1 : IntKind.i64.wrap (1 + x40) = 1 + x40 := w64 (by omega)
  have ew2 : IntKind.i64.wrap (at1 + (1 + x40)) = at1 + (1 + x40) := w64 (by omega)
  obtain ⟨at2, hat2, hat3, hat4⟩ : ∃ y, IntKind.i64.wrap (at1 + IntKind.i64.wrap (1 + x40)) = y ∧ at1 ≤ y ∧ y ≤ at1 + 40 := ⟨_, rfl, by rw [ew1, ew2]; omega, by rw [ew1, ew2]; omega⟩
  simp only [hat2]
  clear ew1 ew2 hat2
  (refine hk _ ?_; clear hk k; try show Sat _ _ _ _ _)
  (repeat refine Sat.seq ?_)
  refine Sat.atF (ι := Int × Int × Nat) (fun z => ⟨175, (17, .op 4 z.2.2 0) :: (16, .sl pq.a pq.p.length pq.cap 1 (adRd pq.p)) :: (15, .i .i64 fl) :: (14, .op 3 b14 0) :: rlEnv st cb most k1 at2 id2 bn ra rc xs.length na nc zs.length, rlOwn bn na nc zs ra rc xs n0 n1 (rlBox b14 z.2.2 n (rlCs n.v z.1 at2 n.d n.pr fl z.2.1 (.b false) (.b false) 0 0 0 0 0 0))⟩)
   (fun z => (1 ≤ z.2.1 ∧ z.2.1 ≤ pq.p.length + 1) ∧ ((n.v = 0 ∧ z.1 = n0) ∨ (n.v = 1 ∧ z.1 = n1))) ?_ ?_
  ·have e5 : IntKind.i64.wrap ((pq.p.length : Int) + 1) = (pq.p.length : Int) + 1 := w64 (by omega)
   rcases (show n.v = 0 ∨ n.v = 1 by have := hnk.v; omega) with hv | hv
   ·simp only [hv]
    (refine Sat.region_tree (.keep [0, 1, 3, 4, 8, 9, 10, 12, 13, 15, 16, 17, 18, 19, 2, 5, 11, 14, 6, 7] [20, 21, 22, 23] (.alt 20 (.free 21 (.free 22 (.one 23 (.one 24 .done)))) (.alt 23 (.one 20 (.one 21 (.one 22 (.one 24 .done)))) .none))) (by kernel_rfl) (by kernel_rfl) (fun _ _ h => h) fun k hk => ?_; simp only [WOT, List.map_cons, List.map_nil, List.getD_cons_zero, List.getD_cons_succ]; simp -implicitDefEqProofs only [evr, id, reduceCtorEq, reduceIte, Nat.reduceMul, Nat.reduceAdd, Nat.reduceLT, Nat.reduceLeDiff, Nat.reduceEqDiff, Int.reduceLT, Int.reduceBEq, Int.reduceBNe, Nat.reduceBEq, ptr, res_one, Int.reduceToNat, resRow, net_one, rlEnv, rlOwn, numCs, rlCs, rlBox, WOT, evn])
    simp -implicitDefEqProofs only [evr, id, reduceCtorEq, reduceIte, Nat.reduceMul, Nat.reduceAdd, Nat.reduceLT, Nat.reduceLeDiff, Nat.reduceEqDiff, Int.reduceLT, Int.reduceBEq, Int.reduceBNe, Nat.reduceBEq, ptr, res_one, Int.reduceToNat, resRow, net_one, rlEnv, rlOwn, numCs, rlCs, rlBox, e5, evn]
    refine ⟨by omega, ?_, ?_⟩
    ·skip
     refine wcall_plain (nextC cb ((pq.p.length : Int) + 1) (by omega) (by omega)) rfl (by rintro _ ⟨x, rfl, _⟩; exact ok_plain rfl) ?_
     rintro r ⟨x3, rfl, g0, g1⟩
     have e6 : IntKind.i64.wrap (1 + x3) = 1 + x3 := w64 (by omega)
     simp -implicitDefEqProofs only [evr, id, reduceCtorEq, reduceIte, Nat.reduceMul, Nat.reduceAdd, Nat.reduceLT, Nat.reduceLeDiff, Nat.reduceEqDiff, Int.reduceLT, Int.reduceBEq, Int.reduceBNe, Nat.reduceBEq, ptr, res_one, Int.reduceToNat, resRow, net_one, rlEnv, rlOwn, numCs, rlCs, rlBox, e6, evn]
     intro b17
     refine hk _ ?_
     simp only [thenK]
     refine ⟨(n0, 1 + x3, b17), ⟨⟨by simp only; omega, by simp only; omega⟩, .inl ⟨trivial, rfl⟩⟩, ?_⟩
     simp -implicitDefEqProofs only [evr, id, reduceCtorEq, reduceIte, Nat.reduceMul, Nat.reduceAdd, Nat.reduceLT, Nat.reduceLeDiff, Nat.reduceEqDiff, Int.reduceLT, Int.reduceBEq, Int.reduceBNe, Nat.reduceBEq, ptr, res_one, Int.reduceToNat, resRow, net_one, rlEnv, rlOwn, numCs, rlCs, rlBox, evl, evn]
     rw [hv]
    ·intro b17
     refine wcall_plain (nextC cb ((pq.p.length : Int) + 1) (by omega) (by omega)) rfl (by rintro _ ⟨x, rfl, _⟩; exact ok_plain rfl) ?_
     rintro r ⟨x3, rfl, g0, g1⟩
     have e6 : IntKind.i64.wrap (1 + x3) = 1 + x3 := w64 (by omega)
     simp -implicitDefEqProofs only [evr, id, reduceCtorEq, reduceIte, Nat.reduceMul, Nat.reduceAdd, Nat.reduceLT, Nat.reduceLeDiff, Nat.reduceEqDiff, Int.reduceLT, Int.reduceBEq, Int.reduceBNe, Nat.reduceBEq, ptr, res_one, Int.reduceToNat, resRow, net_one, rlEnv, rlOwn, numCs, rlCs, rlBox, e6, evn]
     refine hk _ ?_
     simp only [thenK]
     refine ⟨(n0, 1 + x3, b17), ⟨⟨by simp only; omega, by simp only; omega⟩, .inl ⟨trivial, rfl⟩⟩, ?_⟩
     simp -implicitDefEqProofs only [evr, id, reduceCtorEq, reduceIte, Nat.reduceMul, Nat.reduceAdd, Nat.reduceLT, Nat.reduceLeDiff, Nat.reduceEqDiff, Int.reduceLT, Int.reduceBEq, Int.reduceBNe, Nat.reduceBEq, ptr, res_one, Int.reduceToNat, resRow, net_one, rlEnv, rlOwn, numCs, rlCs, rlBox, evl, evn]
     rw [hv]
   ·simp only [hv]
    (refine Sat.region_tree (.keep [0, 1, 3, 4, 8, 9, 10, 12, 13, 15, 16, 17, 18, 19, 2, 5, 11, 14, 6, 7] [20, 21, 22, 23] (.alt 20 (.free 21 (.free 22 (.one 23 (.one 24 .done)))) (.alt 23 (.one 20 (.one 21 (.one 22 (.one 24 .done)))) .none))) (by kernel_rfl) (by kernel_rfl) (fun _ _ h => h) fun k hk => ?_; simp only [WOT, List.map_cons, List.map_nil, List.getD_cons_zero, List.getD_cons_succ]; simp -implicitDefEqProofs only [evr, id, reduceCtorEq, reduceIte, Nat.reduceMul, Nat.reduceAdd, Nat.reduceLT, Nat.reduceLeDiff, Nat.reduceEqDiff, Int.reduceLT, Int.reduceBEq, Int.reduceBNe, Nat.reduceBEq, ptr, res_one, Int.reduceToNat, resRow, net_one, rlEnv, rlOwn, numCs, rlCs, rlBox, WOT, evn])
    simp -implicitDefEqProofs only [evr, id, reduceCtorEq, reduceIte, Nat.reduceMul, Nat.reduceAdd, Nat.reduceLT, Nat.reduceLeDiff, Nat.reduceEqDiff, Int.reduceLT, Int.reduceBEq, Int.reduceBNe, Nat.reduceBEq, ptr, res_one, Int.reduceToNat, resRow, net_one, rlEnv, rlOwn, numCs, rlCs, rlBox, e5, evn]
    refine ⟨by omega, ?_, ?_⟩
    ·skip
     refine wcall_plain (nextC cb ((pq.p.length : Int) + 1) (by omega) (by omega)) rfl (by rintro _ ⟨x, rfl, _⟩; exact ok_plain rfl) ?_
     rintro r ⟨x3, rfl, g0, g1⟩
     have e6 : IntKind.i64.wrap (1 + x3) = 1 + x3 := w64 (by omega)
     simp -implicitDefEqProofs only [evr, id, reduceCtorEq, reduceIte, Nat.reduceMul, Nat.reduceAdd, Nat.reduceLT, Nat.reduceLeDiff, Nat.reduceEqDiff, Int.reduceLT, Int.reduceBEq, Int.reduceBNe, Nat.reduceBEq, ptr, res_one, Int.reduceToNat, resRow, net_one, rlEnv, rlOwn, numCs, rlCs, rlBox, e6, evn]
     intro b17
     refine hk _ ?_
     simp only [thenK]
     refine ⟨(n1, 1 + x3, b17), ⟨⟨by simp only; omega, by simp only; omega⟩, .inr ⟨trivial, rfl⟩⟩, ?_⟩
     simp -implicitDefEqProofs only [evr, id, reduceCtorEq, reduceIte, Nat.reduceMul, Nat.reduceAdd, Nat.reduceLT, Nat.reduceLeDiff, Nat.reduceEqDiff, Int.reduceLT, Int.reduceBEq, Int.reduceBNe, Nat.reduceBEq, ptr, res_one, Int.reduceToNat, resRow, net_one, rlEnv, rlOwn, numCs, rlCs, rlBox, evl, evn]
     rw [hv]
    ·intro b17
     refine wcall_plain (nextC cb ((pq.p.length : Int) + 1) (by omega) (by omega)) rfl (by rintro _ ⟨x, rfl, _⟩; exact ok_plain rfl) ?_
     rintro r ⟨x3, rfl, g0, g1⟩
     have e6 : IntKind.i64.wrap (1 + x3) = 1 + x3 := w64 (by omega)
     simp -implicitDefEqProofs only [evr, id, reduceCtorEq, reduceIte, Nat.reduceMul, Nat.reduceAdd, Nat.reduceLT, Nat.reduceLeDiff, Nat.reduceEqDiff, Int.reduceLT, Int.reduceBEq, Int.reduceBNe, Nat.reduceBEq, ptr, res_one, Int.reduceToNat, resRow, net_one, rlEnv, rlOwn, numCs, rlCs, rlBox, e6, evn]
     refine hk _ ?_
     simp only [thenK]
     refine ⟨(n1, 1 + x3, b17), ⟨⟨by simp only; omega, by simp only; omega⟩, .inr ⟨trivial, rfl⟩⟩, ?_⟩
     simp -implicitDefEqProofs only [evr, id, reduceCtorEq, reduceIte, Nat.reduceMul, Nat.reduceAdd, Nat.reduceLT, Nat.reduceLeDiff, Nat.reduceEqDiff, Int.reduceLT, Int.reduceBEq, Int.reduceBNe, Nat.reduceBEq, ptr, res_one, Int.reduceToNat, resRow, net_one, rlEnv, rlOwn, numCs, rlCs, rlBox, evl, evn]
     rw [hv]
  rintro ⟨num, ttl, b17⟩ ⟨httl, hnum⟩
  simp only [thenK, rlEnv, rlOwn, numCs, rlCs, rlBox] at httl hnum ⊢
  (repeat refine Sat.seq ?_)
  refine Sat.atF (ι := Nat × Nat) (fun z => ⟨175, (17, .op 4 b17 0) :: (16, .sl pq.a pq.p.length pq.cap 1 (adRd pq.p)) :: (15, .i .i64 fl) :: (14, .op 3 b14 0) :: rlEnv st cb most k1 at2 id2 bn ra rc xs.length na nc zs.length, rlOwn bn na nc zs ra rc xs z.1 z.2 (rlBox b14 b17 n (rlCs n.v num at2 n.d n.pr fl ttl (.b false) (.b false) 0 0 0 0 0 0))⟩)
   (fun z => (n.v = 0 ∧ num = n0 ∧ z.1 = n0 + 1 ∧ z.2 = n1) ∨ (n.v = 1 ∧ num = n1 ∧ z.1 = n0 ∧ z.2 = n1 + 1)) ?_ ?_
  ·have e7 : IntKind.i64.wrap ((n0 : Int) + 1) = ((n0 + 1 : Nat) : Int) := by rw [w64 (by omega)]; omega
   have e8 : IntKind.i64.wrap ((n1 : Int) + 1) = ((n1 + 1 : Nat) : Int) := by rw [w64 (by omega)]; omega
   rcases hnum with ⟨hv, hnm⟩ | ⟨hv, hnm⟩
   ·simp only [hv]
    (refine Sat.region_k fun k hk => ?_; simp -implicitDefEqProofs only [evr, id, reduceCtorEq, reduceIte, Nat.reduceMul, Nat.reduceAdd, Nat.reduceLT, Nat.reduceLeDiff, Nat.reduceEqDiff, Int.reduceLT, Int.reduceBEq, Int.reduceBNe, Nat.reduceBEq, ptr, res_one, Int.reduceToNat, resRow, net_one, rlEnv, rlOwn, numCs, rlCs, rlBox, evn])
    simp only [e7]
    refine ⟨by omega, by omega, hk _ ?_⟩
    simp only [thenK]
    refine ⟨(n0 + 1, n1), .inl ⟨trivial, hnm, rfl, rfl⟩, ?_⟩
    simp -implicitDefEqProofs only [evr, id, reduceCtorEq, reduceIte, Nat.reduceMul, Nat.reduceAdd, Nat.reduceLT, Nat.reduceLeDiff, Nat.reduceEqDiff, Int.reduceLT, Int.reduceBEq, Int.reduceBNe, Nat.reduceBEq, ptr, res_one, Int.reduceToNat, resRow, net_one, rlEnv, rlOwn, numCs, rlCs, rlBox, evl, evn]
    simp only [hv]
   ·simp only [hv]
    (refine Sat.region_k fun k hk => ?_; simp -implicitDefEqProofs only [evr, id, reduceCtorEq, reduceIte, Nat.reduceMul, Nat.reduceAdd, Nat.reduceLT, Nat.reduceLeDiff, Nat.reduceEqDiff, Int.reduceLT, Int.reduceBEq, Int.reduceBNe, Nat.reduceBEq, ptr, res_one, Int.reduceToNat, resRow, net_one, rlEnv, rlOwn, numCs, rlCs, rlBox, evn])
    simp only [e8]
    refine ⟨by omega, by omega, hk _ ?_⟩
    simp only [thenK]
    refine ⟨(n0, n1 + 1), .inr ⟨trivial, hnm, rfl, rfl⟩, ?_⟩
    simp -implicitDefEqProofs only [evr, id, reduceCtorEq, reduceIte, Nat.reduceMul, Nat.reduceAdd, Nat.reduceLT, Nat.reduceLeDiff, Nat.reduceEqDiff, Int.reduceLT, Int.reduceBEq, Int.reduceBNe, Nat.reduceBEq, ptr, res_one, Int.reduceToNat, resRow, net_one, rlEnv, rlOwn, numCs, rlCs, rlBox, evl, evn]
    simp only [hv]
  rintro ⟨m0, m1⟩ hnew
  simp only [thenK, rlEnv, rlOwn, numCs, rlCs, rlBox] at hnew ⊢
  (repeat refine Sat.seq ?_)
  refine Sat.atF (ι := Int) (fun z => ⟨175, (17, .op 4 b17 0) :: (16, .sl pq.a pq.p.length pq.cap 1 (adRd pq.p)) :: (15, .i .i64 fl) :: (14, .op 3 b14 0) :: rlEnv st cb most k1 at2 id2 bn ra rc xs.length na nc zs.length, rlOwn bn na nc zs ra rc xs m0 m1 (rlBox b14 b17 n (rlCs n.v num at2 n.d n.pr fl ttl (.b false) (.b false) z 0 0 0 0 0))⟩) (fun z => at2 ≤ z ∧ z ≤ at2 + 23) ?_ ?_
  ·(refine Sat.region_tree (.keep [0, 2, 6, 1, 3, 4, 5] [7] (.one 7 (.one 8 (.one 9 (.one 10 .done))))) (by kernel_rfl) (by kernel_rfl) (fun _ _ h => h) fun k hk => ?_; simp only [WOT, List.map_cons, List.map_nil, List.getD_cons_zero, List.getD_cons_succ]; simp -implicitDefEqProofs only [evr, id, reduceCtorEq, reduceIte, Nat.reduceMul, Nat.reduceAdd, Nat.reduceLT, Nat.reduceLeDiff, Nat.reduceEqDiff, Int.reduceLT, Int.reduceBEq, Int.reduceBNe, Nat.reduceBEq, ptr, res_one, Int.reduceToNat, resRow, net_one, rlEnv, rlOwn, numCs, rlCs, rlBox, WOT, evn])
   refine wcall_plain (nextC cb 4 (by omega) (by omega)) rfl (by rintro _ ⟨x, rfl, _⟩; exact ok_plain rfl) ?_
   rintro r ⟨x4, rfl, hd0, hd1⟩
   have ew3 : IntKind.i64.wrap (5 * ttl) = 5 * ttl := w64 (by omega)
   have ew4 : IntKind.i64.wrap (at2 + 5 * ttl) = at2 + 5 * ttl := w64 (by omega)
   have ew5 : IntKind.i64.wrap (at2 + 5 * ttl + x4) = at2 + 5 * ttl + x4 := w64 (by omega)
   simp -implicitDefEqProofs only [evr, id, reduceCtorEq, reduceIte, Nat.reduceMul, Nat.reduceAdd, Nat.reduceLT, Nat.reduceLeDiff, Nat.reduceEqDiff, Int.reduceLT, Int.reduceBEq, Int.reduceBNe, Nat.reduceBEq, ptr, res_one, Int.reduceToNat, resRow, net_one, rlEnv, rlOwn, numCs, rlCs, rlBox, evn]
   refine hk _ ?_
   simp only [thenK]
   refine ⟨IntKind.i64.wrap (IntKind.i64.wrap (at2 + IntKind.i64.wrap (5 * ttl)) + x4), ⟨by rw [ew3, ew4, ew5]; omega, by rw [ew3, ew4, ew5]; omega⟩, ?_⟩
   simp -implicitDefEqProofs only [evr, id, reduceCtorEq, reduceIte, Nat.reduceMul, Nat.reduceAdd, Nat.reduceLT, Nat.reduceLeDiff, Nat.reduceEqDiff, Int.reduceLT, Int.reduceBEq, Int.reduceBNe, Nat.reduceBEq, ptr, res_one, Int.reduceToNat, resRow, net_one, rlEnv, rlOwn, numCs, rlCs, rlBox, evl, evn]
  rintro back ⟨hbk0, hbk1⟩
  simp only [thenK, rlEnv, rlOwn, numCs, rlCs, rlBox]
  (repeat refine Sat.seq ?_)
  (refine Sat.region_k fun k hk => ?_; simp -implicitDefEqProofs only [evr, id, reduceCtorEq, reduceIte, Nat.reduceMul, Nat.reduceAdd, Nat.reduceLT, Nat.reduceLeDiff, Nat.reduceEqDiff, Int.reduceLT, Int.reduceBEq, Int.reduceBNe, Nat.reduceBEq, ptr, res_one, Int.reduceToNat, resRow, net_one, rlEnv, rlOwn, numCs, rlCs, rlBox, evn])
  refine wcall_plain (nextC cb 5 (by omega) (by omega)) rfl (by rintro _ ⟨x, rfl, _⟩; exact ok_plain rfl) ?_
  rintro r ⟨x5, rfl, hq0, hq1⟩
  simp -implicitDefEqProofs only [evr, id, reduceCtorEq, reduceIte, Nat.reduceMul, Nat.reduceAdd, Nat.reduceLT, Nat.reduceLeDiff, Nat.reduceEqDiff, Int.reduceLT, Int.reduceBEq, Int.reduceBNe, Nat.reduceBEq, ptr, res_one, Int.reduceToNat, resRow, net_one, rlEnv, rlOwn, numCs, rlCs, rlBox, evn]
  have ew6 : IntKind.i64.wrap (1 + x5) = 1 + x5 := w64 (by omega)
  have ew7 : IntKind.i64.wrap (id2 + (1 + x5)) = id2 + (1 + x5) := w64 (by omega)
  obtain ⟨id3, hid5, hid6, hid7⟩ : ∃ y, IntKind.i64.wrap (id2 + IntKind.i64.wrap (1 + x5)) = y ∧ 0 ≤ y ∧ y ≤ id2 + 5 := ⟨_, rfl, by rw [ew6, ew7]; omega, by rw [ew6, ew7]; omega⟩
  simp only [hid5]
  clear ew6 ew7 hid5
  (refine hk _ ?_; clear hk k; try show Sat _ _ _ _ _)
  (repeat refine Sat.seq ?_)
  (refine Sat.region_k fun k hk => ?_; simp -implicitDefEqProofs only [evr, id, reduceCtorEq, reduceIte, Nat.reduceMul, Nat.reduceAdd, Nat.reduceLT, Nat.reduceLeDiff, Nat.reduceEqDiff, Int.reduceLT, Int.reduceBEq, Int.reduceBNe, Nat.reduceBEq, ptr, res_one, Int.reduceToNat, resRow, net_one, rlEnv, rlOwn, numCs, rlCs, rlBox, evn]; refine hk _ ?_; clear hk k; try show Sat _ _ _ _ _)
  (repeat refine Sat.seq ?_)
  (refine Sat.region_k fun k hk => ?_; simp -implicitDefEqProofs only [evr, id, reduceCtorEq, reduceIte, Nat.reduceMul, Nat.reduceAdd, Nat.reduceLT, Nat.reduceLeDiff, Nat.reduceEqDiff, Int.reduceLT, Int.reduceBEq, Int.reduceBNe, Nat.reduceBEq, ptr, res_one, Int.reduceToNat, resRow, net_one, rlEnv, rlOwn, numCs, rlCs, rlBox, evn]; refine hk _ ?_; clear hk k; try show Sat _ _ _ _ _)
  (repeat refine Sat.seq ?_)
  refine Sat.atF (ι := Int) (fun z => ⟨175, (18, .i .u32 z) :: (17, .op 4 b17 0) :: (16, .sl pq.a pq.p.length pq.cap 1 (adRd pq.p)) :: (15, .i .i64 fl) :: (14, .op 3 b14 0) :: rlEnv st cb most k1 at2 id3 bn ra rc xs.length na nc zs.length, rlOwn bn na nc zs ra rc xs m0 m1 (rlBox b14 b17 n (rlCs n.v num at2 n.d n.pr fl ttl (.b false) (.b false) back 0 0 0 0 0))⟩) InA ?_ ?_
  ·refine Sat.cond_b rfl (fun h => ?_) (fun h => ?_)
   ·have h3 : ttl ≤ pq.p.length := by simpa using h
    have e9 : IntKind.i64.wrap (ttl - 1) = ttl - 1 := w64 (by omega)
    (refine Sat.region_k fun k hk => ?_; simp -implicitDefEqProofs only [evr, id, reduceCtorEq, reduceIte, Nat.reduceMul, Nat.reduceAdd, Nat.reduceLT, Nat.reduceLeDiff, Nat.reduceEqDiff, Int.reduceLT, Int.reduceBEq, Int.reduceBNe, Nat.reduceBEq, ptr, res_one, Int.reduceToNat, resRow, net_one, rlEnv, rlOwn, numCs, rlCs, rlBox, evn])
    simp only [e9]
    refine ⟨by omega, hk _ ?_⟩
    simp only [thenK]
    refine ⟨pq.p.getD (ttl - 1).toNat 0, hpok.2 _ (getD_mem (by omega)), ?_⟩
    simp -implicitDefEqProofs only [evr, id, reduceCtorEq, reduceIte, Nat.reduceMul, Nat.reduceAdd, Nat.reduceLT, Nat.reduceLeDiff, Nat.reduceEqDiff, Int.reduceLT, Int.reduceBEq, Int.reduceBNe, Nat.reduceBEq, ptr, res_one, Int.reduceToNat, resRow, net_one, rlEnv, rlOwn, numCs, rlCs, rlBox, evl, evn]
    rfl
   ·refine Sat.skip ?_
    simp only [thenK]
    refine ⟨n.last, hnk.last, ?_⟩
    simp -implicitDefEqProofs only [evr, id, reduceCtorEq, reduceIte, Nat.reduceMul, Nat.reduceAdd, Nat.reduceLT, Nat.reduceLeDiff, Nat.reduceEqDiff, Int.reduceLT, Int.reduceBEq, Int.reduceBNe, Nat.reduceBEq, ptr, res_one, Int.reduceToNat, resRow, net_one, rlEnv, rlOwn, numCs, rlCs, rlBox, evl, evn]
  intro fr hfr
  simp only [thenK, rlEnv, rlOwn, numCs, rlCs, rlBox]
  (repeat refine Sat.seq ?_)
  refine Sat.atF (ι := Bool) (fun z => ⟨175, (142, .b z) :: (18, .i .u32 fr) :: (17, .op 4 b17 0) :: (16, .sl pq.a pq.p.length pq.cap 1 (adRd pq.p)) :: (15, .i .i64 fl) :: (14, .op 3 b14 0) :: rlEnv st cb most k1 at2 id3 bn ra rc xs.length na nc zs.length, rlOwn bn na nc zs ra rc xs m0 m1 (rlBox b14 b17 n (rlCs n.v num at2 n.d n.pr fl ttl (.b false) (.b false) back 0 0 0 0 0))⟩) (fun z => z = true → fr ≠ 0) ?_ ?_
  ·(refine Sat.region_k fun k hk => ?_; simp -implicitDefEqProofs only [evr, id, reduceCtorEq, reduceIte, Nat.reduceMul, Nat.reduceAdd, Nat.reduceLT, Nat.reduceLeDiff, Nat.reduceEqDiff, Int.reduceLT, Int.reduceBEq, Int.reduceBNe, Nat.reduceBEq, ptr, res_one, Int.reduceToNat, resRow, net_one, rlEnv, rlOwn, numCs, rlCs, rlBox, evn])
   refine ⟨fun g1 => ?_, fun g1 => hk _ ?_⟩
   ·refine wcall_plain (boolC cb 5 (by decide) (by decide)) rfl plain_bool ?_
    rintro r ⟨q5, rfl⟩
    simp -implicitDefEqProofs only [evr, id, reduceCtorEq, reduceIte, Nat.reduceMul, Nat.reduceAdd, Nat.reduceLT, Nat.reduceLeDiff, Nat.reduceEqDiff, Int.reduceLT, Int.reduceBEq, Int.reduceBNe, Nat.reduceBEq, ptr, res_one, Int.reduceToNat, resRow, net_one, rlEnv, rlOwn, numCs, rlCs, rlBox, evn]
    refine hk _ ?_
    simp only [thenK]
    refine ⟨!q5, fun _ => (by simpa using g1), ?_⟩
    simp -implicitDefEqProofs only [evr, id, reduceCtorEq, reduceIte, Nat.reduceMul, Nat.reduceAdd, Nat.reduceLT, Nat.reduceLeDiff, Nat.reduceEqDiff, Int.reduceLT, Int.reduceBEq, Int.reduceBNe, Nat.reduceBEq, ptr, res_one, Int.reduceToNat, resRow, net_one, rlEnv, rlOwn, numCs, rlCs, rlBox, evl, evn]
   ·simp only [thenK]
    refine ⟨false, fun h9 => (by cases h9), ?_⟩
    simp -implicitDefEqProofs only [evr, id, reduceCtorEq, reduceIte, Nat.reduceMul, Nat.reduceAdd, Nat.reduceLT, Nat.reduceLeDiff, Nat.reduceEqDiff, Int.reduceLT, Int.reduceBEq, Int.reduceBNe, Nat.reduceBEq, ptr, res_one, Int.reduceToNat, resRow, net_one, rlEnv, rlOwn, numCs, rlCs, rlBox, evl, evn]
  intro ba hba
  simp only [thenK, rlEnv, rlOwn, numCs, rlCs, rlBox]
  (repeat refine Sat.seq ?_)
  refine Sat.atF (ι := SV × SV × Int × Int × Int × Int × Int) (fun z => ⟨175, (17, .op 4 b17 0) :: (16, .sl pq.a pq.p.length pq.cap 1 (adRd pq.p)) :: (15, .i .i64 fl) :: (14, .op 3 b14 0) :: rlEnv st cb most k1 at2 id3 bn ra rc xs.length na nc zs.length, rlOwn bn na nc zs ra rc xs m0 m1 (rlBox b14 b17 n (rlCs n.v num at2 n.d n.pr fl ttl (z.1) (z.2.1) back z.2.2.1 z.2.2.2.1 z.2.2.2.2.1 z.2.2.2.2.2.1 z.2.2.2.2.2.2))⟩) (fun z => ∃ b8 b9, sim z.1 (.b b8) ∧ sim z.2.1 (.b b9) ∧ oneS z.1 = true ∧ oneS z.2.1 = true ∧ InA z.2.2.1 ∧ AnsOk b8 b9 z.2.2.1 z.2.2.2.1 z.2.2.2.2.1 z.2.2.2.2.2.1 z.2.2.2.2.2.2) ?_ ?_
  ·refine Sat.cond_b rfl (fun h => ?_) (fun h => ?_)
   ·have hba1 : ba = true := h
    (repeat refine Sat.seq ?_)
    (refine Sat.region_k fun k hk => ?_; simp -implicitDefEqProofs only [evr, id, reduceCtorEq, reduceIte, Nat.reduceMul, Nat.reduceAdd, Nat.reduceLT, Nat.reduceLeDiff, Nat.reduceEqDiff, Int.reduceLT, Int.reduceBEq, Int.reduceBNe, Nat.reduceBEq, ptr, res_one, Int.reduceToNat, resRow, net_one, rlEnv, rlOwn, numCs, rlCs, rlBox, evn])
    refine wcall_plain (boolC cb 30 (by decide) (by decide)) rfl plain_bool ?_
    rintro r ⟨q30, rfl⟩
    simp -implicitDefEqProofs only [evr, id, reduceCtorEq, reduceIte, Nat.reduceMul, Nat.reduceAdd, Nat.reduceLT, Nat.reduceLeDiff, Nat.reduceEqDiff, Int.reduceLT, Int.reduceBEq, Int.reduceBNe, Nat.reduceBEq, ptr, res_one, Int.reduceToNat, resRow, net_one, rlEnv, rlOwn, numCs, rlCs, rlBox, evn]
    (refine hk _ ?_; clear hk k; try show Sat _ _ _ _ _)
    (repeat refine Sat.seq ?_)
    (refine Sat.region_k fun k hk => ?_; simp -implicitDefEqProofs only [evr, id, reduceCtorEq, reduceIte, Nat.reduceMul, Nat.reduceAdd, Nat.reduceLT, Nat.reduceLeDiff, Nat.reduceEqDiff, Int.reduceLT, Int.reduceBEq, Int.reduceBNe, Nat.reduceBEq, ptr, res_one, Int.reduceToNat, resRow, net_one, rlEnv, rlOwn, numCs, rlCs, rlBox, evn])
    obtain ⟨id4, hid8, hid9, hid10⟩ : ∃ y, id3.tmod 65536 = y ∧ 0 ≤ y ∧ y ≤ 65535 := ⟨_, rfl, Int.tmod_nonneg _ hid6, Int.le_of_lt_add_one (Int.tmod_lt_of_pos _ (by decide))⟩
    simp only [hid8]
    clear hid8
    refine ⟨by decide, ?_⟩
    (refine hk _ ?_; clear hk k; try show Sat _ _ _ _ _)
    (repeat refine Sat.seq ?_)
    (refine Sat.region_k fun k hk => ?_; simp -implicitDefEqProofs only [evr, id, reduceCtorEq, reduceIte, Nat.reduceMul, Nat.reduceAdd, Nat.reduceLT, Nat.reduceLeDiff, Nat.reduceEqDiff, Int.reduceLT, Int.reduceBEq, Int.reduceBNe, Nat.reduceBEq, ptr, res_one, Int.reduceToNat, resRow, net_one, rlEnv, rlOwn, numCs, rlCs, rlBox, evn]; refine hk _ ?_; clear hk k; try show Sat _ _ _ _ _)
    (repeat refine Sat.seq ?_)
    refine Sat.atF (ι := Int) (fun z => ⟨175, (17, .op 4 b17 0) :: (16, .sl pq.a pq.p.length pq.cap 1 (adRd pq.p)) :: (15, .i .i64 fl) :: (14, .op 3 b14 0) :: rlEnv st cb most k1 at2 id3 bn ra rc xs.length na nc zs.length, rlOwn bn na nc zs ra rc xs m0 m1 (rlBox b14 b17 n (rlCs n.v num at2 n.d n.pr fl ttl (.tt) (.b q30) back fr z 60 id4 1))⟩) (fun z => 1 ≤ z ∧ z ≤ 5) ?_ ?_
    ·refine Sat.cond_b rfl (fun h => ?_) (fun h => ?_)
     ·(refine Sat.region_k fun k hk => ?_; simp -implicitDefEqProofs only [evr, id, reduceCtorEq, reduceIte, Nat.reduceMul, Nat.reduceAdd, Nat.reduceLT, Nat.reduceLeDiff, Nat.reduceEqDiff, Int.reduceLT, Int.reduceBEq, Int.reduceBNe, Nat.reduceBEq, ptr, res_one, Int.reduceToNat, resRow, net_one, rlEnv, rlOwn, numCs, rlCs, rlBox, evn])
      intro bp
      refine wcall_plain (pickI cb bp [3, 3, 2] (fun x => 1 ≤ x ∧ x ≤ 5) (by decide) (by decide) (by decide)) (by simp -implicitDefEqProofs only [evr, id, reduceCtorEq, reduceIte, Nat.reduceMul, Nat.reduceAdd, Nat.reduceLT, Nat.reduceLeDiff, Nat.reduceEqDiff, Int.reduceLT, Int.reduceBEq, Int.reduceBNe, Nat.reduceBEq, ptr, res_one, Int.reduceToNat, resRow, net_one, rlEnv, rlOwn, numCs, rlCs, rlBox, evn]) plain_pick ?_
      rintro r ⟨x, rfl, hxp⟩
      simp -implicitDefEqProofs only [evr, id, reduceCtorEq, reduceIte, Nat.reduceMul, Nat.reduceAdd, Nat.reduceLT, Nat.reduceLeDiff, Nat.reduceEqDiff, Int.reduceLT, Int.reduceBEq, Int.reduceBNe, Nat.reduceBEq, ptr, res_one, Int.reduceToNat, resRow, net_one, rlEnv, rlOwn, numCs, rlCs, rlBox, evn]
      refine hk _ ?_
      simp only [thenK]
      refine ⟨x, hxp, ?_⟩
      simp -implicitDefEqProofs only [evr, id, reduceCtorEq, reduceIte, Nat.reduceMul, Nat.reduceAdd, Nat.reduceLT, Nat.reduceLeDiff, Nat.reduceEqDiff, Int.reduceLT, Int.reduceBEq, Int.reduceBNe, Nat.reduceBEq, ptr, res_one, Int.reduceToNat, resRow, net_one, rlEnv, rlOwn, numCs, rlCs, rlBox, evl, evn]
     ·refine Sat.skip ?_
      simp only [thenK]
      refine ⟨1, ⟨by decide, by decide⟩, ?_⟩
      simp -implicitDefEqProofs only [evr, id, reduceCtorEq, reduceIte, Nat.reduceMul, Nat.reduceAdd, Nat.reduceLT, Nat.reduceLeDiff, Nat.reduceEqDiff, Int.reduceLT, Int.reduceBEq, Int.reduceBNe, Nat.reduceBEq, ptr, res_one, Int.reduceToNat, resRow, net_one, rlEnv, rlOwn, numCs, rlCs, rlBox, evl, evn]
    rintro kind hkd
    simp only [thenK, rlEnv, rlOwn, numCs, rlCs, rlBox]
    (repeat refine Sat.seq ?_)
    (refine Sat.region_k fun k hk => ?_; simp -implicitDefEqProofs only [evr, id, reduceCtorEq, reduceIte, Nat.reduceMul, Nat.reduceAdd, Nat.reduceLT, Nat.reduceLeDiff, Nat.reduceEqDiff, Int.reduceLT, Int.reduceBEq, Int.reduceBNe, Nat.reduceBEq, ptr, res_one, Int.reduceToNat, resRow, net_one, rlEnv, rlOwn, numCs, rlCs, rlBox, evn])
    refine wcall_plain (boolC cb 5 (by decide) (by decide)) rfl plain_bool ?_
    rintro r ⟨q6, rfl⟩
    simp -implicitDefEqProofs only [evr, id, reduceCtorEq, reduceIte, Nat.reduceMul, Nat.reduceAdd, Nat.reduceLT, Nat.reduceLeDiff, Nat.reduceEqDiff, Int.reduceLT, Int.reduceBEq, Int.reduceBNe, Nat.reduceBEq, ptr, res_one, Int.reduceToNat, resRow, net_one, rlEnv, rlOwn, numCs, rlCs, rlBox, evn]
    (refine hk _ ?_; clear hk k; try show Sat _ _ _ _ _)
    refine Sat.cond_b rfl (fun h => ?_) (fun h => ?_)
    ·(refine Sat.region_k fun k hk => ?_; simp -implicitDefEqProofs only [evr, id, reduceCtorEq, reduceIte, Nat.reduceMul, Nat.reduceAdd, Nat.reduceLT, Nat.reduceLeDiff, Nat.reduceEqDiff, Int.reduceLT, Int.reduceBEq, Int.reduceBNe, Nat.reduceBEq, ptr, res_one, Int.reduceToNat, resRow, net_one, rlEnv, rlOwn, numCs, rlCs, rlBox, evn])
     refine wcall_plain (nextC cb 65536 (by omega) (by omega)) rfl (by rintro _ ⟨x, rfl, _⟩; exact ok_plain rfl) ?_
     rintro r ⟨x6, rfl, hg0, hg1⟩
     simp -implicitDefEqProofs only [evr, id, reduceCtorEq, reduceIte, Nat.reduceMul, Nat.reduceAdd, Nat.reduceLT, Nat.reduceLeDiff, Nat.reduceEqDiff, Int.reduceLT, Int.reduceBEq, Int.reduceBNe, Nat.reduceBEq, ptr, res_one, Int.reduceToNat, resRow, net_one, rlEnv, rlOwn, numCs, rlCs, rlBox, evn]
     refine hk _ ?_
     simp only [thenK]
     refine ⟨(.tt, .b q30, fr, kind, 60, x6, 1), ⟨true, q30, sim_tt, sim_refl _, rfl, rfl, hfr, .inl ⟨rfl, hba hba1, hkd, rfl, ⟨hg0, by show x6 ≤ 65535; omega⟩, rfl⟩⟩, ?_⟩
     simp -implicitDefEqProofs only [evr, id, reduceCtorEq, reduceIte, Nat.reduceMul, Nat.reduceAdd, Nat.reduceLT, Nat.reduceLeDiff, Nat.reduceEqDiff, Int.reduceLT, Int.reduceBEq, Int.reduceBNe, Nat.reduceBEq, ptr, res_one, Int.reduceToNat, resRow, net_one, rlEnv, rlOwn, numCs, rlCs, rlBox, evl, evn]
    ·refine Sat.skip ?_
     simp only [thenK]
     refine ⟨(.tt, .b q30, fr, kind, 60, id4, 1), ⟨true, q30, sim_tt, sim_refl _, rfl, rfl, hfr, .inl ⟨rfl, hba hba1, hkd, rfl, ⟨hid9, hid10⟩, rfl⟩⟩, ?_⟩
     simp -implicitDefEqProofs only [evr, id, reduceCtorEq, reduceIte, Nat.reduceMul, Nat.reduceAdd, Nat.reduceLT, Nat.reduceLeDiff, Nat.reduceEqDiff, Int.reduceLT, Int.reduceBEq, Int.reduceBNe, Nat.reduceBEq, ptr, res_one, Int.reduceToNat, resRow, net_one, rlEnv, rlOwn, numCs, rlCs, rlBox, evl, evn]
   ·refine Sat.skip ?_
    simp only [thenK]
    refine ⟨(.b false, .b false, 0, 0, 0, 0, 0), ⟨false, false, sim_refl _, sim_refl _, rfl, rfl, ⟨by decide, by decide⟩, .inr ⟨rfl, rfl, rfl, rfl, rfl, rfl, rfl⟩⟩, ?_⟩
    simp -implicitDefEqProofs only [evr, id, reduceCtorEq, reduceIte, Nat.reduceMul, Nat.reduceAdd, Nat.reduceLT, Nat.reduceLeDiff, Nat.reduceEqDiff, Int.reduceLT, Int.reduceBEq, Int.reduceBNe, Nat.reduceBEq, ptr, res_one, Int.reduceToNat, resRow, net_one, rlEnv, rlOwn, numCs, rlCs, rlBox, evl, evn]
  rintro ⟨s8, s9, fr2, kind, left, idv, quo⟩ ⟨b8, b9, hs8, hs9, ho8, ho9, hfr2, hans⟩
  simp only [thenK, rlEnv, rlOwn, numCs, rlCs, rlBox] at hs8 hs9 ho8 ho9 hfr2 hans ⊢
  (repeat refine Sat.seq ?_)
  (refine Sat.region_k fun k hk => ?_; simp -implicitDefEqProofs only [evr, id, reduceCtorEq, reduceIte, Nat.reduceMul, Nat.reduceAdd, Nat.reduceLT, Nat.reduceLeDiff, Nat.reduceEqDiff, Int.reduceLT, Int.reduceBEq, Int.reduceBNe, Nat.reduceBEq, ptr, res_one, Int.reduceToNat, resRow, net_one, rlEnv, rlOwn, numCs, rlCs, rlBox, evn]; refine hk _ ?_; clear hk k; try show Sat _ _ _ _ _)
  (repeat refine Sat.seq ?_)
  (refine Sat.region_k fun k hk => ?_; simp -implicitDefEqProofs only [evr, id, reduceCtorEq, reduceIte, Nat.reduceMul, Nat.reduceAdd, Nat.reduceLT, Nat.reduceLeDiff, Nat.reduceEqDiff, Int.reduceLT, Int.reduceBEq, Int.reduceBNe, Nat.reduceBEq, ptr, res_one, Int.reduceToNat, resRow, net_one, rlEnv, rlOwn, numCs, rlCs, rlBox, evn])
  simp -implicitDefEqProofs only [evr, id, reduceCtorEq, reduceIte, Nat.reduceMul, Nat.reduceAdd, Nat.reduceLT, Nat.reduceLeDiff, Nat.reduceEqDiff, Int.reduceLT, Int.reduceBEq, Int.reduceBNe, Nat.reduceBEq, ptr, res_one, Int.reduceToNat, resRow, net_one, rlEnv, rlOwn, numCs, rlCs, rlBox, ho8, ho9, evn]
  intro b18
  refine ⟨⟨by unfold maxLen; omega, by omega⟩, fun a2 cap2 => ?_⟩
  (refine hk _ ?_; clear hk k; try show Sat _ _ _ _ _)
  obtain ⟨r, hr⟩ : ∃ r : Res, r = ⟨n.v, 0, num, at2, n.d, n.pr, fl, ttl, b8, b9, back, fr2, kind, 0, left, idv, quo⟩ := ⟨_, rfl⟩
  refine Sat.reread 2 (resRd (xs ++ [r]).toArray) rfl ?_ ?_
  ·refine res_appS ?_
   subst hr
   simp only [Res.cs, simA]
   refine ⟨?_, ?_, ?_, ?_, ?_, ?_, ?_, ?_, ?_, ?_, ?_, ?_, ?_, ?_, ?_, ?_, ?_, trivial⟩ <;> first | exact sim_refl _ | exact hs8 | exact hs9
  simp -implicitDefEqProofs only [evr, id, reduceCtorEq, reduceIte, Nat.reduceMul, Nat.reduceAdd, Nat.reduceLT, Nat.reduceLeDiff, Nat.reduceEqDiff, Int.reduceLT, Int.reduceBEq, Int.reduceBNe, Nat.reduceBEq, ptr, res_one, Int.reduceToNat, resRow, net_one, rlEnv, rlOwn, numCs, rlCs, rlBox, evn]
  refine Sat.region_k fun k hk => ?_
  simp -implicitDefEqProofs only [evr, id, reduceCtorEq, reduceIte, Nat.reduceMul, Nat.reduceAdd, Nat.reduceLT, Nat.reduceLeDiff, Nat.reduceEqDiff, Int.reduceLT, Int.reduceBEq, Int.reduceBNe, Nat.reduceBEq, ptr, res_one, Int.reduceToNat, resRow, net_one, rlEnv, rlOwn, numCs, rlCs, rlBox, e2, evn]
  refine hk _ ?_
  simp only [thenK, blockK]
  have hrg : RgR r := by subst hr; exact ⟨w64_inA hnk.d, w64_inA hfr2⟩
  have hnum0 : 0 ≤ num ∧ num < 1000 := by rcases hnew with ⟨g1, g2, g3, g4⟩ | ⟨g1, g2, g3, g4⟩ <;> omega
  have hnv := hnk.v
  have hval : validR r = true := by
   subst hr
   exact rlt_valid hnk.v hnum0 ⟨by omega, by omega, by omega⟩ hnk.d0 hnk.pr ⟨by omega, by omega⟩ ⟨by omega, by omega⟩ hans
  have hI2 : RltI (xs ++ [r]) m0 m1 := by
   rcases hnew with ⟨g1, g2, g3, g4⟩ | ⟨g1, g2, g3, g4⟩
   ·rw [g3, g4]; exact hI.snoc0 hrg hval (by subst hr; exact g1) (by subst hr; exact g2)
   ·rw [g3, g4]; exact hI.snoc1 hrg hval (by subst hr; exact g1) (by subst hr; exact g2)
  refine ⟨⟨k1 - 1, back, id3, na, nc, zs, a2, cap2, xs ++ [r], m0, m1⟩, ⟨by simp; omega, hnl, hzok, hI2, by simp; omega, by simp; omega, ⟨by simp only; omega, by simp only [List.length_append, List.length_singleton]; omega⟩, ⟨by simp only; omega, by simp only [List.length_append, List.length_singleton]; omega⟩⟩, by simp only; omega, ?_⟩
  simp only [List.length_append, List.length_singleton]
  simp -implicitDefEqProofs only [evr, id, reduceCtorEq, reduceIte, Nat.reduceMul, Nat.reduceAdd, Nat.reduceLT, Nat.reduceLeDiff, Nat.reduceEqDiff, Int.reduceLT, Int.reduceBEq, Int.reduceBNe, Nat.reduceBEq, ptr, res_one, Int.reduceToNat, resRow, net_one, rlEnv, rlOwn, numCs, rlCs, rlBox, evl, evn]
 ·have h0 : k1 = 0 := by simp only [decide_eq_false_iff_not] at h; omega
  refine Sat.exit ?_
  simp only [thenK, blockK, reduceIte]
  (repeat refine Sat.seq ?_)
  (refine Sat.region_k fun k hk => ?_; simp -implicitDefEqProofs only [evr, id, reduceCtorEq, reduceIte, Nat.reduceMul, Nat.reduceAdd, Nat.reduceLT, Nat.reduceLeDiff, Nat.reduceEqDiff, Int.reduceLT, Int.reduceBEq, Int.reduceBNe, Nat.reduceBEq, ptr, res_one, Int.reduceToNat, resRow, net_one, rlEnv, rlOwn, numCs, rlCs, rlBox, evn]; refine hk _ ?_; clear hk k; try show Sat _ _ _ _ _)
  refine Sat.ret ?_
  simp only [Tryz.results9, evr, id, reduceCtorEq, reduceIte, Nat.reduceMul, Nat.reduceAdd, Nat.reduceLT, Nat.reduceLeDiff, Nat.reduceEqDiff, Int.reduceLT, Int.reduceBEq, Int.reduceBNe, Nat.reduceBEq, ptr, res_one, List.append_nil, Int.toNat_zero, Nat.sub_self, Int.reduceToNat, resRow, net_one, rlEnv, rlOwn, numCs, rlCs, rlBox, retN, retNK, newRow]
  exact ⟨⟨rfl, rfl, rfl⟩, ra, rc, xs, n0, n1, hI, by omega, rfl⟩
end Go.Proofs.YtfeiiadligkamaaGreat


/- Results of some traces without contradictions, by the evaluator: dice.Consistent. -/
namespace Go.Proofs.YtfeiiadligkamaaGreat
open Go.Sort Eng
theorem Calm.snoc {ys : List Res} {x : Res} {b : Bool} (h : b = true ↔ ∀ a ∈ ys ++ [x], ∀ c ∈ ys ++ [x], contraR a c = false) (hb : b = true) : Calm (ys ++ [x]) := h.1 hb
set_option maxHeartbeats 1000000 in
set_option maxRecDepth 100000 in
theorem calmC (cb : Nat) (most : Nat) (hm : most ≤ 1000) :
    ContractN (Frm.codes cb) Tryz.prog 34 [ptr cb, .i .i64 most] (fun o => ∃ (a : Option Addr) (cap : Nat) (ys : List Res), Calm ys ∧ (∀ r ∈ ys, RgR r ∧ validR r = true) ∧ ys.length ≤ most ∧ o = resRow a ys.length cap ys.toArray) := by
  refine contractN_of Tryz.func34 rfl (by kernel_rfl) ?_
  simp only [Tryz.ntmps34, argEnv, ptr]
  (repeat refine Sat.seq ?_)
  (refine Sat.region_k fun k hk => ?_; simp -implicitDefEqProofs only [evr, id, reduceCtorEq, reduceIte, Nat.reduceMul, Nat.reduceAdd, Nat.reduceLT, Nat.reduceLeDiff, Nat.reduceEqDiff, Int.reduceLT, Int.reduceBEq, Int.reduceBNe, Nat.reduceBEq, ptr, res_one, Int.reduceToNat, resRow, res_ro, evn]; refine hk _ ?_; clear hk k; try show Sat _ _ _ _ _)
  (repeat refine Sat.seq ?_)
  (refine Sat.region_k fun k hk => ?_; simp -implicitDefEqProofs only [evr, id, reduceCtorEq, reduceIte, Nat.reduceMul, Nat.reduceAdd, Nat.reduceLT, Nat.reduceLeDiff, Nat.reduceEqDiff, Int.reduceLT, Int.reduceBEq, Int.reduceBNe, Nat.reduceBEq, ptr, res_one, Int.reduceToNat, resRow, res_ro, evn])
  refine wcall_new (resultsC true cb most hm) rfl (by simp -implicitDefEqProofs only [evr, id, reduceCtorEq, reduceIte, Nat.reduceMul, Nat.reduceAdd, Nat.reduceLT, Nat.reduceLeDiff, Nat.reduceEqDiff, Int.reduceLT, Int.reduceBEq, Int.reduceBNe, Nat.reduceBEq, ptr, res_one, Int.reduceToNat, resRow, res_ro, evn]; try rfl) ?_
  rintro xa ty len xc sz rrd ⟨a1, c1, xs, n0, n1, hI, hxl, e⟩
  simp only [resRow, Eng.Own.row.injEq] at e
  obtain ⟨rfl, rfl, rfl, rfl, rfl, rfl⟩ := e
  simp -implicitDefEqProofs only [evr, id, reduceCtorEq, reduceIte, Nat.reduceMul, Nat.reduceAdd, Nat.reduceLT, Nat.reduceLeDiff, Nat.reduceEqDiff, Int.reduceLT, Int.reduceBEq, Int.reduceBNe, Nat.reduceBEq, ptr, res_one, Int.reduceToNat, resRow, res_ro, evn]
  (refine hk _ ?_; clear hk k; try show Sat _ _ _ _ _)
  refine Sat.settleLastRow [] 5 rfl ?_
  (repeat refine Sat.seq ?_)
  (refine Sat.region_k fun k hk => ?_; simp -implicitDefEqProofs only [evr, id, reduceCtorEq, reduceIte, Nat.reduceMul, Nat.reduceAdd, Nat.reduceLT, Nat.reduceLeDiff, Nat.reduceEqDiff, Int.reduceLT, Int.reduceBEq, Int.reduceBNe, Nat.reduceBEq, ptr, res_one, Int.reduceToNat, resRow, res_ro, evn]; refine hk _ ?_; clear hk k; try show Sat _ _ _ _ _)
  refine Sat.adopt 6 62 17 (resRd #[]) rfl ?_
  (repeat refine Sat.seq ?_)
  (refine Sat.region_k fun k hk => ?_; simp -implicitDefEqProofs only [evr, id, reduceCtorEq, reduceIte, Nat.reduceMul, Nat.reduceAdd, Nat.reduceLT, Nat.reduceLeDiff, Nat.reduceEqDiff, Int.reduceLT, Int.reduceBEq, Int.reduceBNe, Nat.reduceBEq, ptr, res_one, Int.reduceToNat, resRow, res_ro, evn]; refine hk _ ?_; clear hk k; try show Sat _ _ _ _ _)
  (repeat refine Sat.seq ?_)
  refine Sat.block ?_
  refine Sat.loop (ι := Nat × List Res × Option Addr × Nat) (fun z => ⟨34, [(7, .i .i64 z.1), (6, .os 0 z.2.2.1 z.2.1.length z.2.2.2), (5, .sl xa xs.length xc 17 (resRd xs.toArray))], [resRow z.2.2.1 z.2.1.length z.2.2.2 z.2.1.toArray]⟩)
    (fun z => z.1 ≤ xs.length ∧ Calm z.2.1 ∧ (∀ r ∈ z.2.1, RgR r ∧ validR r = true) ∧ z.2.1.length ≤ z.1) (fun z => xs.length - z.1) (0, [], none, 0)
    ⟨Nat.zero_le _, fun a ha => (by cases ha), fun r hr => (by cases hr), Nat.le_refl _⟩ (by
      simp only [resRow, List.length_nil]
      simp -implicitDefEqProofs only [evr, id, reduceCtorEq, reduceIte, Nat.reduceMul, Nat.reduceAdd, Nat.reduceLT, Nat.reduceLeDiff, Nat.reduceEqDiff, Int.reduceLT, Int.reduceBEq, Int.reduceBNe, Nat.reduceBEq, ptr, res_one, Int.reduceToNat, resRow, res_ro, evl, evn]
      first | done | rfl | trace_state) ?_
  rintro ⟨i, ys, oa, oc⟩ ⟨hi, hC, hV, hyl⟩
  simp only [resRow] at hi hC hV hyl ⊢
  (repeat refine Sat.seq ?_)
  (refine Sat.region_k fun k hk => ?_; simp -implicitDefEqProofs only [evr, id, reduceCtorEq, reduceIte, Nat.reduceMul, Nat.reduceAdd, Nat.reduceLT, Nat.reduceLeDiff, Nat.reduceEqDiff, Int.reduceLT, Int.reduceBEq, Int.reduceBNe, Nat.reduceBEq, ptr, res_one, Int.reduceToNat, resRow, res_ro, evn]; refine hk _ ?_; clear hk k; try show Sat _ _ _ _ _)
  (repeat refine Sat.seq ?_)
  refine Sat.cond_b rfl (fun h => ?_) (fun h => ?_)
  · have h1 : i < xs.length := by simp only [decide_eq_true_eq] at h; omega
    have e1 : IntKind.i64.wrap ((i : Int) + 1) = ((i + 1 : Nat) : Int) := by rw [w64 (by omega)]; omega
    obtain ⟨x, hx⟩ : ∃ x, x = xs.toArray[i]! := ⟨_, rfl⟩
    have hxi : xs[i] = x := by rw [hx, getB h1]
    have hxm : x ∈ xs := by rw [← hxi]; exact List.getElem_mem h1
    refine Sat.skip ?_
    simp only [thenK]
    (repeat refine Sat.seq ?_)
    refine Sat.block ?_
    (repeat refine Sat.seq ?_)
    refine Sat.atF (ι := Bool) (fun b => ⟨34, [(25, .b b), (7, .i .i64 i), (6, .os 0 oa ys.length oc), (5, .sl xa xs.length xc 17 (resRd xs.toArray))], [.row oa 62 ys.length oc 17 (resRd ys.toArray)]⟩) (fun b => b = true → Calm (ys ++ [x])) ?_ ?_
    · (refine Sat.region_tree (.keep [0, 2, 3, 4, 5] [1] (.alt 1 (.one 6 (.one 7 (.one 8 .done))) (.alt 6 (.one 1 (.one 7 (.one 8 .done))) .none))) (by kernel_rfl) (by kernel_rfl) (fun _ _ h => h) fun k hk => ?_; simp only [WOT, List.map_cons, List.map_nil, List.getD_cons_zero, List.getD_cons_succ]; simp -implicitDefEqProofs only [evr, id, reduceCtorEq, reduceIte, Nat.reduceMul, Nat.reduceAdd, Nat.reduceLT, Nat.reduceLeDiff, Nat.reduceEqDiff, Int.reduceLT, Int.reduceBEq, Int.reduceBNe, Nat.reduceBEq, ptr, res_one, Int.reduceToNat, resRow, res_ro, WOT, evn])
      have hc : ∀ (a2 : Option Addr) (c2 : Nat), Contract (Frm.codes cb) Tryz.prog 76 [.sl a2 (ys.length + 1) c2 17 (rdCat ys.length (resRd ys.toArray) (rdL (Res.cs xs.toArray[i]!) 17))] (fun r => ∃ b, (b = true ↔ ∀ a ∈ ys ++ [x], ∀ c ∈ ys ++ [x], contraR a c = false) ∧ r = .b b) := fun a2 c2 => by
        have hc := consistentG (Frm.codes cb) a2 c2 (ys ++ [x]) (by rw [List.length_append, List.length_singleton]; omega)
        rw [List.length_append, List.length_singleton] at hc
        exact Contract.of_sim hc ⟨sim_sl (res_appX (by rw [hx])), trivial⟩
      repeat' (first
        | (with_reducible refine And.intro ?_ ?_)
        | omega
        | (unfold maxLen; omega)
        | (refine wcall_plain (hc a2 c2) (by simp only [Res.cs, evr, id, reduceCtorEq, reduceIte, Nat.reduceMul, Nat.reduceAdd, Nat.reduceLT, Nat.reduceLeDiff, Nat.reduceEqDiff, Int.reduceLT, Int.reduceBEq, Int.reduceBNe, Nat.reduceBEq, ptr, res_one, List.append_nil, Int.toNat_zero, Nat.sub_self, Int.reduceToNat, resRow, res_ro]; try rfl) (by rintro _ ⟨b, _, rfl⟩; exact ok_plain rfl) ?_
           rintro _ ⟨b, hb, rfl⟩
           simp -implicitDefEqProofs only [evr, id, reduceCtorEq, reduceIte, Nat.reduceMul, Nat.reduceAdd, Nat.reduceLT, Nat.reduceLeDiff, Nat.reduceEqDiff, Int.reduceLT, Int.reduceBEq, Int.reduceBNe, Nat.reduceBEq, ptr, res_one, Int.reduceToNat, resRow, res_ro, evn])
        | (refine fun (a2 : Option Addr) (c2 : Nat) => ?_)
        | (with_reducible intro bs))
      all_goals
        refine hk _ ?_
        simp only [thenK]
        refine ⟨b, fun h9 => hb.1 h9, ?_⟩
        simp -implicitDefEqProofs only [evr, id, reduceCtorEq, reduceIte, Nat.reduceMul, Nat.reduceAdd, Nat.reduceLT, Nat.reduceLeDiff, Nat.reduceEqDiff, Int.reduceLT, Int.reduceBEq, Int.reduceBNe, Nat.reduceBEq, ptr, res_one, Int.reduceToNat, resRow, res_ro, evl, evn]
    rintro b hb
    simp only [thenK]
    (repeat refine Sat.seq ?_)
    refine Sat.cond_b rfl (fun h2 => ?_) (fun h2 => ?_)
    · (repeat refine Sat.seq ?_)
      refine Sat.region_k fun kk hk => ?_
      simp -implicitDefEqProofs only [evr, id, reduceCtorEq, reduceIte, Nat.reduceMul, Nat.reduceAdd, Nat.reduceLT, Nat.reduceLeDiff, Nat.reduceEqDiff, Int.reduceLT, Int.reduceBEq, Int.reduceBNe, Nat.reduceBEq, ptr, res_one, Int.reduceToNat, resRow, res_ro, evn]
      refine ⟨by omega, fun bz => ⟨⟨by unfold maxLen; omega, by omega⟩, fun a2 c2 => hk _ ?_⟩⟩
      clear hk kk
      simp only [thenK, blockK, reduceIte]
      refine Sat.region_k fun kk hk => ?_
      simp -implicitDefEqProofs only [evr, id, reduceCtorEq, reduceIte, Nat.reduceMul, Nat.reduceAdd, Nat.reduceLT, Nat.reduceLeDiff, Nat.reduceEqDiff, Int.reduceLT, Int.reduceBEq, Int.reduceBNe, Nat.reduceBEq, ptr, res_one, Int.reduceToNat, resRow, res_ro, e1, evn]
      refine hk _ ?_
      simp only [thenK, blockK]
      refine ⟨(i + 1, ys ++ [x], a2, c2), ⟨h1, hb h2, fun r hr => ?_, by simp only [List.length_append, List.length_singleton]; omega⟩, by simp only; omega, ?_⟩
      · rcases List.mem_append.1 hr with hr | hr
        · exact hV r hr
        · rw [List.mem_singleton] at hr
          rw [hr]
          exact ⟨hI.inr x hxm, hI.val x hxm⟩
      · simp only [resRow, List.length_append, List.length_singleton]
        simp -implicitDefEqProofs only [evr, id, reduceCtorEq, reduceIte, Nat.reduceMul, Nat.reduceAdd, Nat.reduceLT, Nat.reduceLeDiff, Nat.reduceEqDiff, Int.reduceLT, Int.reduceBEq, Int.reduceBNe, Nat.reduceBEq, ptr, res_one, Int.reduceToNat, resRow, res_ro, evl, evn]
        exact res_appX (by rw [hx]; rfl)
    · refine Sat.skip ?_
      simp only [thenK, blockK, reduceIte]
      refine Sat.region_k fun kk hk => ?_
      simp -implicitDefEqProofs only [evr, id, reduceCtorEq, reduceIte, Nat.reduceMul, Nat.reduceAdd, Nat.reduceLT, Nat.reduceLeDiff, Nat.reduceEqDiff, Int.reduceLT, Int.reduceBEq, Int.reduceBNe, Nat.reduceBEq, ptr, res_one, Int.reduceToNat, resRow, res_ro, e1, evn]
      refine hk _ ?_
      simp only [thenK, blockK]
      refine ⟨(i + 1, ys, oa, oc), ⟨h1, hC, hV, by simp only; omega⟩, by simp only; omega, ?_⟩
      simp only [resRow]
      simp -implicitDefEqProofs only [evr, id, reduceCtorEq, reduceIte, Nat.reduceMul, Nat.reduceAdd, Nat.reduceLT, Nat.reduceLeDiff, Nat.reduceEqDiff, Int.reduceLT, Int.reduceBEq, Int.reduceBNe, Nat.reduceBEq, ptr, res_one, Int.reduceToNat, resRow, res_ro, evl, evn]
  have h1 : i = xs.length := by simp only [decide_eq_false_iff_not] at h; omega
  refine Sat.exit ?_
  simp only [thenK, blockK, reduceIte]
  (repeat refine Sat.seq ?_)
  (refine Sat.region_k fun k hk => ?_; simp -implicitDefEqProofs only [evr, id, reduceCtorEq, reduceIte, Nat.reduceMul, Nat.reduceAdd, Nat.reduceLT, Nat.reduceLeDiff, Nat.reduceEqDiff, Int.reduceLT, Int.reduceBEq, Int.reduceBNe, Nat.reduceBEq, ptr, res_one, Int.reduceToNat, resRow, res_ro, evn]; refine hk _ ?_; clear hk k; try show Sat _ _ _ _ _)
  refine Sat.ret ?_
  simp only [Tryz.results34, evr, id, reduceCtorEq, reduceIte, Nat.reduceMul, Nat.reduceAdd, Nat.reduceLT, Nat.reduceLeDiff, Nat.reduceEqDiff, Int.reduceLT, Int.reduceBEq, Int.reduceBNe, Nat.reduceBEq, ptr, res_one, List.append_nil, Int.toNat_zero, Nat.sub_self, Int.reduceToNat, resRow, res_ro, retN, retNK, newRow]
  exact ⟨⟨rfl, rfl, rfl⟩, oa, oc, ys, hC, hV, by omega, rfl⟩
end Go.Proofs.YtfeiiadligkamaaGreat
