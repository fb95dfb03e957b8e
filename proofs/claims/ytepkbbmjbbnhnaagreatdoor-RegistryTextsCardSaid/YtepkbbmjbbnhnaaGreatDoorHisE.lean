/- registry.History, by the evaluator. -/
import Derived.Test.YtepkbbmjbbnhnaaGreatDoorTimE
import Derived.Test.YtepkbbmjbbnhnaaGreatDoorLkpE
set_option linter.unusedSimpArgs false
set_option linter.unusedVariables false
namespace Go.Proofs.YtepkbbmjbbnhnaaGreatDoor
open Go.Sort Eng
structure Owd where
  prov : Int
  from_ : Int
  to_ : Int
  deriving DecidableEq
instance : Inhabited Owd := ⟨⟨0, 0, 0⟩⟩
def Owd.cs (o : Owd) : List SV := [.i .i64 o.prov, .i .i64 o.from_, .i .i64 o.to_]
def owRd (l : List Owd) : Nat → Nat → SV := fun i j => (Owd.cs (l.getD i default)).getD j default
theorem ow0 (l : List Owd) (i : Nat) : owRd l i 0 = .i .i64 (l.getD i default).prov := rfl
theorem ow1 (l : List Owd) (i : Nat) : owRd l i 1 = .i .i64 (l.getD i default).from_ := rfl
theorem ow2 (l : List Owd) (i : Nat) : owRd l i 2 = .i .i64 (l.getD i default).to_ := rfl
def goesOn (l : List Owd) (p : Int) : Prop := 0 < l.length ∧ (l.getD (l.length - 1) default).prov = p
instance (l : List Owd) (p : Int) : Decidable (goesOn l p) := by unfold goesOn; infer_instance
def hsStep (l : List Owd) (p t u : Int) : List Owd := if goesOn l p then l.set (l.length - 1) ⟨p, (l.getD (l.length - 1) default).from_, u⟩ else l ++ [⟨p, t, u⟩]
def pvd (a : Nat) (t : Int) (es : List Ent) : Int := (optE (lkp a t es)).prov
def hist (a : Nat) (es : List Ent) (ts : List Int) : Nat → List Owd
  | 0 => []
  | k + 1 => hsStep (hist a es ts k) (pvd a (ts.getD k 0) es) (ts.getD k 0) (ts.getD (k + 1) 0)
theorem hist_len (a : Nat) (es : List Ent) (ts : List Int) : ∀ k, (hist a es ts k).length ≤ k
  | 0 => Nat.le_refl _
  | k + 1 => by
    have := hist_len a es ts k
    unfold hist hsStep
    split
    · rw [List.length_set]; omega
    · rw [List.length_append, List.length_singleton]; omega
def histL (a : Nat) (p : RgP) : List Owd := if RegOk p.es then hist a p.es (timesL a [p]) ((timesL a [p]).length - 1) else []
theorem intsA_getD (l : List Int) (i : Nat) (h : i < l.length) : l.toArray[i]! = l.getD i 0 := by simp [getElem!_def, List.getD, h]
theorem compactI_le : ∀ l : List Int, (compactI l).length ≤ l.length
  | [] => Nat.le_refl _
  | [x] => Nat.le_refl _
  | x :: y :: l => by
    have := compactI_le (y :: l)
    unfold compactI
    split
    · simp only [List.length_cons] at this ⊢; omega
    · simp only [List.length_cons] at this ⊢; omega
theorem compactI_pos : ∀ l : List Int, 0 < l.length → 0 < (compactI l).length
  | [], h => h
  | [x], h => h
  | x :: y :: l, _ => by
    have := compactI_pos (y :: l) (by simp)
    unfold compactI
    split
    · exact this
    · simp only [List.length_cons]; omega
theorem timesL_pos (a : Nat) (rs : List RgP) : 0 < (timesL a rs).length := compactI_pos _ (by rw [sortI_len]; simp)
theorem timesL_len (a : Nat) (rs : List RgP) (h : rsOk rs) : (timesL a rs).length ≤ 2 + 2048 * rs.length := by
  have h1 := compactI_le (sortI ([0, 1125899906842624] ++ ftsL a rs))
  have h2 := ftsL_len a rs h
  rw [sortI_len] at h1
  unfold timesL
  simp only [List.cons_append, List.nil_append, List.length_cons] at h1 ⊢
  omega
theorem ow_set {l : List Owd} (h : 0 < l.length) (u : Int) : rdEq l.length 3 (rdSet (owRd l) (l.length - 1) 2 [.i .i64 u]) (owRd (l.set (l.length - 1) ⟨(l.getD (l.length - 1) default).prov, (l.getD (l.length - 1) default).from_, u⟩)) := by
  intro p q hp hq
  unfold rdSet owRd
  simp only [List.length_cons, List.length_nil]
  by_cases e : p = l.length - 1
  · subst e
    have e1 : (l.set (l.length - 1) ⟨(l.getD (l.length - 1) default).prov, (l.getD (l.length - 1) default).from_, u⟩).getD (l.length - 1) default = ⟨(l.getD (l.length - 1) default).prov, (l.getD (l.length - 1) default).from_, u⟩ := by
      simp [List.getD, List.getElem?_set, show l.length - 1 < l.length by omega]
    rw [e1]
    rcases (show q = 0 ∨ q = 1 ∨ q = 2 by omega) with rfl | rfl | rfl <;> simp [Owd.cs]
  · have e1 : (l.set (l.length - 1) ⟨(l.getD (l.length - 1) default).prov, (l.getD (l.length - 1) default).from_, u⟩).getD p default = l.getD p default := by
      simp [List.getD, List.getElem?_set, Ne.symm e]
    rw [e1]
    simp [e]
theorem ow_app (l : List Owd) (o : Owd) : rdEq (l.length + 1) 3 (rdCat l.length (owRd l) (rdL (Owd.cs o) 3)) (owRd (l ++ [o])) := by
  intro p q hp hq
  unfold rdCat rdL owRd
  split
  · rename_i h; simp [List.getD, List.getElem?_append, h]
  · rename_i h
    obtain rfl : p = l.length := by omega
    simp [List.getD, List.getElem?_append]
theorem entS_ok (e : Ent) (R : Nat → Prop) (w : World) : (entS e).ok R w := fun j hj => by
  have : j < (Ent.cs e).length := hj
  have hm : (Ent.cs e).getD j default ∈ Ent.cs e := getD_mem this
  exact ok_plain (List.all_eq_true.1 (show (Ent.cs e).all plainS = true from rfl) _ hm) R w
theorem lkS_ok (b : Option Ent) (R : Nat → Prop) (w : World) : (lkS b).ok R w := fun j hj => by
  rcases (show j = 0 ∨ j = 1 by have : j < 2 := hj; omega) with rfl | rfl
  · exact entS_ok _ R w
  · trivial
set_option maxRecDepth 100000 in
theorem historyC (F : Frm) (p : RgP) (h : esOk p.es) (hn : p.es.length ≤ 1000000) (a : Nat) (ha : a < 2 ^ 32) :
    Contract F Tryz.prog 18 [p.s, .i .u32 a] (fun r => ∃ a2 c, r = .sl a2 (histL a p).length c 3 (owRd (histL a p))) := by
  refine Contract.same (post := fun r => (histL a p = [] ∧ ∃ rd, r = .sl none 0 0 0 rd) ∨ ∃ a2 c, r = .sl a2 (histL a p).length c 3 (owRd (histL a p))) ?_ (by
    rintro r (⟨h1, rd, rfl⟩ | ⟨a2, c, h2⟩)
    · rw [h1]
      exact ⟨_, sim_nil 0 3 rd (owRd []), none, 0, rfl⟩
    · exact ⟨r, sim_refl _, a2, c, h2⟩)
  refine contract_of Tryz.func18 rfl (by kernel_rfl) ?_
  simp only [Tryz.ntmps18, argEnv, RgP.s, regS]
  (repeat refine Sat.seq ?_)
  (refine Sat.region_k fun k hk => ?_; simp -implicitDefEqProofs only [evr, id, seval, ent0, ent1, ent2, ent3, ent4, Nat.sub_zero, int_at, ow0, ow1, ow2, lkS, entS, Ent.cs, tupL, evn])
  intro b2
  (refine hk _ ?_; clear hk k; try show Sat _ _ _ _ _)
  (repeat refine Sat.seq ?_)
  (refine Sat.region_k fun k hk => ?_; simp -implicitDefEqProofs only [evr, id, seval, ent0, ent1, ent2, ent3, ent4, Nat.sub_zero, int_at, ow0, ow1, ow2, lkS, entS, Ent.cs, tupL, evn])
  refine wcall_plain (regValidC F p.ad p.cap p.es h) (by simp -implicitDefEqProofs only [evr, id, seval, ent0, ent1, ent2, ent3, ent4, Nat.sub_zero, int_at, ow0, ow1, ow2, lkS, entS, Ent.cs, tupL, evn]; rfl) (by rintro _ rfl; exact ok_plain rfl) ?_
  rintro r rfl
  simp -implicitDefEqProofs only [evr, id, seval, ent0, ent1, ent2, ent3, ent4, Nat.sub_zero, int_at, ow0, ow1, ow2, lkS, entS, Ent.cs, tupL, evn]
  (refine hk _ ?_; clear hk k; try show Sat _ _ _ _ _)
  (repeat refine Sat.seq ?_)
  refine Sat.cond_b rfl (fun h1 => ?_) (fun h1 => ?_)
  · simp only [Bool.not_eq_true', decide_eq_false_iff_not] at h1
    (repeat refine Sat.seq ?_)
    (refine Sat.region_k fun k hk => ?_; simp -implicitDefEqProofs only [evr, id, seval, ent0, ent1, ent2, ent3, ent4, Nat.sub_zero, int_at, ow0, ow1, ow2, lkS, entS, Ent.cs, tupL, evn]; refine hk _ ?_; clear hk k; try show Sat _ _ _ _ _)
    refine Sat.ret ?_
    simp only [Tryz.results18, evr, id, seval, List.append_nil, Int.toNat_zero, Nat.sub_self, ent0, ent1, ent2, ent3, ent4, Nat.sub_zero, int_at, ow0, ow1, ow2, lkS, entS, Ent.cs, tupL]
    refine .inl ⟨?_, _, rfl⟩
    unfold histL
    rw [if_neg h1]
  · simp only [Bool.not_eq_false', decide_eq_true_eq] at h1
    have hv : histL a p = hist a p.es (timesL a [p]) ((timesL a [p]).length - 1) := by unfold histL; rw [if_pos h1]
    have hrs : rsOk [p] := fun r hr => by rw [List.mem_singleton.1 hr]; exact ⟨h, h1.1⟩
    have htl := timesL_len a [p] hrs
    simp only [List.length_singleton] at htl
    refine Sat.skip ?_
    simp only [thenK]
    (repeat refine Sat.seq ?_)
    (refine Sat.region_k fun k hk => ?_; simp -implicitDefEqProofs only [evr, id, seval, ent0, ent1, ent2, ent3, ent4, Nat.sub_zero, int_at, ow0, ow1, ow2, lkS, entS, Ent.cs, tupL, evn]; refine hk _ ?_; clear hk k; try show Sat _ _ _ _ _)
    refine Sat.adopt 5 51 3 (owRd []) rfl ?_
    (repeat refine Sat.seq ?_)
    (refine Sat.region_k fun k hk => ?_; simp -implicitDefEqProofs only [evr, id, seval, ent0, ent1, ent2, ent3, ent4, Nat.sub_zero, int_at, ow0, ow1, ow2, lkS, entS, Ent.cs, tupL, evn])
    intro b17
    refine wcall_slice ((timesC F (some ⟨b17, 0, none⟩) 1 [p] hrs (by simp) a ha).of_sim (args := [.i .u32 a, .sl (some ⟨b17, 0, none⟩) 1 1 1 (rdL [.sl p.ad p.es.length p.cap 5 (entRd p.es)] 1)]) ⟨sim_refl _, sim_sl (fun i j hi hj => by
      obtain rfl : i = 0 := by omega
      obtain rfl : j = 0 := by omega
      rfl), trivial⟩) rfl (by simp -implicitDefEqProofs only [evr, id, seval, ent0, ent1, ent2, ent3, ent4, Nat.sub_zero, int_at, ow0, ow1, ow2, lkS, entS, Ent.cs, tupL, evn]) ?_
    rintro _ ⟨a6, c6, rfl⟩
    simp -implicitDefEqProofs only [evr, id, seval, ent0, ent1, ent2, ent3, ent4, Nat.sub_zero, int_at, ow0, ow1, ow2, lkS, entS, Ent.cs, tupL, evn]
    generalize hts : timesL a [p] = ts at hv htl ⊢
    have htp : 0 < ts.length := hts ▸ timesL_pos a [p]
    have e1 : IntKind.i64.wrap ((ts.length : Int) - 1) = ((ts.length - 1 : Nat) : Int) := by rw [w64 (by omega)]; omega
    (refine hk _ ?_; clear hk k; try show Sat _ _ _ _ _)
    (repeat refine Sat.seq ?_)
    (refine Sat.region_k fun k hk => ?_; simp -implicitDefEqProofs only [evr, id, seval, ent0, ent1, ent2, ent3, ent4, Nat.sub_zero, int_at, ow0, ow1, ow2, lkS, entS, Ent.cs, tupL, evn])
    simp only [e1, Int.toNat_natCast]
    generalize (if c6 = 0 then a6 else Option.map (fun x : Addr => x.add 0) a6) = a8
    refine ⟨⟨by omega, by omega⟩, ?_⟩
    (refine hk _ ?_; clear hk k; try show Sat _ _ _ _ _)
    (repeat refine Sat.seq ?_)
    refine Sat.block ?_
    refine Sat.loop (ι := Nat × Option Addr × Nat × List Owd) (fun x => ⟨76, [(25, .i .i64 x.1), (24, .i .i64 (ts.length - 1 : Nat)), (23, .sl a8 (ts.length - 1) c6 1 (intsA ts.toArray)), (6, .sl a6 ts.length c6 1 (intsA ts.toArray)), (5, .os 1 x.2.1 x.2.2.2.length x.2.2.1), (2, .op 0 b2 0), (1, .i .u32 a)],
      [.box b2 25 [.sl p.ad p.es.length p.cap 5 (entRd p.es)], .row x.2.1 51 x.2.2.2.length x.2.2.1 3 (owRd x.2.2.2)]⟩)
      (fun x => x.1 ≤ ts.length - 1 ∧ x.2.2.2 = hist a p.es ts x.1) (fun x => ts.length - 1 - x.1) (0, none, 0, []) ⟨Nat.zero_le _, rfl⟩ (by simp -implicitDefEqProofs only [evr, id, seval, ent0, ent1, ent2, ent3, ent4, Nat.sub_zero, int_at, ow0, ow1, ow2, lkS, entS, Ent.cs, tupL, evl, evn]; rfl) ?_
    rintro ⟨i, a5, c5, l⟩ ⟨hi, hl⟩
    simp only at hi hl ⊢
    have hll : l.length ≤ i := hl ▸ hist_len a p.es ts i
    (repeat refine Sat.seq ?_)
    (refine Sat.region_k fun k hk => ?_; simp -implicitDefEqProofs only [evr, id, seval, ent0, ent1, ent2, ent3, ent4, Nat.sub_zero, int_at, ow0, ow1, ow2, lkS, entS, Ent.cs, tupL, evn]; refine hk _ ?_; clear hk k; try show Sat _ _ _ _ _)
    (repeat refine Sat.seq ?_)
    refine Sat.cond_b rfl (fun h2 => ?_) (fun h2 => ?_)
    · simp only [decide_eq_true_eq] at h2
      have hlt : i < ts.length - 1 := by omega
      have e2 : IntKind.i64.wrap ((i : Int) + 1) = ((i + 1 : Nat) : Int) := by rw [w64 (by omega)]; omega
      have hstep : hist a p.es ts (i + 1) = hsStep (hist a p.es ts i) (pvd a (ts.getD i 0) p.es) (ts.getD i 0) (ts.getD (i + 1) 0) := rfl
      rw [← hl] at hstep
      have ht1 := intsA_getD ts i (by omega)
      have ht2 := intsA_getD ts (i + 1) (by omega)
      refine Sat.skip ?_
      simp only [thenK]
      (repeat refine Sat.seq ?_)
      refine Sat.block ?_
      (repeat refine Sat.seq ?_)
      (refine Sat.region_k fun k hk => ?_; simp -implicitDefEqProofs only [evr, id, seval, ent0, ent1, ent2, ent3, ent4, Nat.sub_zero, int_at, ow0, ow1, ow2, lkS, entS, Ent.cs, tupL, evn])
      rw [ht1]
      refine ⟨by omega, ?_⟩
      (refine hk _ ?_; clear hk k; try show Sat _ _ _ _ _)
      generalize hx1 : ts.getD i 0 = t1 at hstep ⊢
      generalize hx2 : ts.getD (i + 1) 0 = t2 at hstep ht2
      (repeat refine Sat.seq ?_)
      (refine Sat.region_k fun k hk => ?_; simp -implicitDefEqProofs only [evr, id, seval, ent0, ent1, ent2, ent3, ent4, Nat.sub_zero, int_at, ow0, ow1, ow2, lkS, entS, Ent.cs, tupL, evn])
      refine wcall_plain (lookC F p.ad p.cap p.es h hn a ha t1) (by simp -implicitDefEqProofs only [evr, id, seval, ent0, ent1, ent2, ent3, ent4, Nat.sub_zero, int_at, ow0, ow1, ow2, lkS, entS, Ent.cs, tupL, evn]; rfl) (by rintro _ rfl; exact lkS_ok _) ?_
      rintro r rfl
      simp -implicitDefEqProofs only [evr, id, seval, ent0, ent1, ent2, ent3, ent4, Nat.sub_zero, int_at, ow0, ow1, ow2, lkS, entS, Ent.cs, tupL, evn]
      intro b9
      have hpv : (optE (lkp a t1 p.es)).prov = pvd a t1 p.es := rfl
      rw [hpv]
      generalize pvd a t1 p.es = pv at hstep ⊢
      (refine hk _ ?_; clear hk k; try show Sat _ _ _ _ _)
      (repeat refine Sat.seq ?_)
      (refine Sat.region_k fun k hk => ?_; simp -implicitDefEqProofs only [evr, id, seval, ent0, ent1, ent2, ent3, ent4, Nat.sub_zero, int_at, ow0, ow1, ow2, lkS, entS, Ent.cs, tupL, evn]; refine hk _ ?_; clear hk k; try show Sat _ _ _ _ _)
      (repeat refine Sat.seq ?_)
      refine Sat.region_qat (by kernel_rfl) (by kernel_rfl) ⟨76, [(51, .b (decide (goesOn l pv))), (11, .i .i64 l.length), (9, .op 2 b9 0), (7, .i .i64 i), (8, .i .i64 t1), (25, .i .i64 i), (24, .i .i64 (ts.length - 1 : Nat)), (23, .sl a8 (ts.length - 1) c6 1 (intsA ts.toArray)), (6, .sl a6 ts.length c6 1 (intsA ts.toArray)), (5, .os 1 a5 l.length c5), (2, .op 0 b2 0), (1, .i .u32 a)],
        [.box b2 25 [.sl p.ad p.es.length p.cap 5 (entRd p.es)], .row a5 51 l.length c5 3 (owRd l), .box b9 31 [.i .u32 (optE (lkp a t1 p.es)).addr, .i .i64 (optE (lkp a t1 p.es)).len, .i .i64 pv, .i .i64 (optE (lkp a t1 p.es)).from_, .i .i64 (optE (lkp a t1 p.es)).to_]]⟩ (fun k hk => ?_) ?_
      · have e3 : 0 < l.length → IntKind.i64.wrap ((l.length : Int) - 1) = ((l.length - 1 : Nat) : Int) := fun h0 => by rw [w64 (by omega)]; omega
        rcases Nat.eq_zero_or_pos l.length with h0 | h0
        · simp -implicitDefEqProofs only [evr, id, seval, ent0, ent1, ent2, ent3, ent4, Nat.sub_zero, int_at, ow0, ow1, ow2, lkS, entS, Ent.cs, tupL, evn]
          repeat' (first
          | (with_reducible refine And.intro ?_ ?_)
          | (with_reducible intro hh)
          | omega
          | (with_reducible refine hk _ ?_
             first
             | (have e9 : decide (goesOn l pv) = false := by
                  clear hk
                  apply decide_eq_false
                  unfold goesOn
                  rintro ⟨g1, g2⟩
                  omega
                simp only [e9]
                simp -implicitDefEqProofs only [evr, id, seval, ent0, ent1, ent2, ent3, ent4, Nat.sub_zero, int_at, ow0, ow1, ow2, lkS, entS, Ent.cs, tupL, evl, evn]
                done)
             | (have e9 : decide (goesOn l pv) = ((l.getD (l.length - 1) default).prov == pv) := by
                  clear hk
                  apply Bool.eq_iff_iff.2
                  rw [decide_eq_true_eq, beq_iff_eq]
                  unfold goesOn
                  constructor
                  · exact fun h => h.2
                  · exact fun h => ⟨by omega, h⟩
                simp only [e9]
                simp -implicitDefEqProofs only [evr, id, seval, ent0, ent1, ent2, ent3, ent4, Nat.sub_zero, int_at, ow0, ow1, ow2, lkS, entS, Ent.cs, tupL, evl, evn]
                done)))
        · have e4 := e3 h0
          simp -implicitDefEqProofs only [evr, id, seval, ent0, ent1, ent2, ent3, ent4, Nat.sub_zero, int_at, ow0, ow1, ow2, lkS, entS, Ent.cs, tupL, e4, Int.toNat_natCast, evn]
          repeat' (first
          | (with_reducible refine And.intro ?_ ?_)
          | (with_reducible intro hh)
          | omega
          | (with_reducible refine hk _ ?_
             first
             | (have e9 : decide (goesOn l pv) = false := by
                  clear hk
                  apply decide_eq_false
                  unfold goesOn
                  rintro ⟨g1, g2⟩
                  omega
                simp only [e9]
                simp -implicitDefEqProofs only [evr, id, seval, ent0, ent1, ent2, ent3, ent4, Nat.sub_zero, int_at, ow0, ow1, ow2, lkS, entS, Ent.cs, tupL, evl, evn]
                done)
             | (have e9 : decide (goesOn l pv) = ((l.getD (l.length - 1) default).prov == pv) := by
                  clear hk
                  apply Bool.eq_iff_iff.2
                  rw [decide_eq_true_eq, beq_iff_eq]
                  unfold goesOn
                  constructor
                  · exact fun h => h.2
                  · exact fun h => ⟨by omega, h⟩
                simp only [e9]
                simp -implicitDefEqProofs only [evr, id, seval, ent0, ent1, ent2, ent3, ent4, Nat.sub_zero, int_at, ow0, ow1, ow2, lkS, entS, Ent.cs, tupL, evl, evn]
                done)))
      simp only [thenK]
      refine Sat.cond_b rfl (fun h3 => ?_) (fun h3 => ?_)
      · simp only [decide_eq_true_eq] at h3
        have h0 := h3.1
        have e4 : IntKind.i64.wrap ((l.length : Int) - 1) = ((l.length - 1 : Nat) : Int) := by rw [w64 (by omega)]; omega
        unfold hsStep at hstep
        rw [if_pos h3] at hstep
        (repeat refine Sat.seq ?_)
        refine Sat.region_k fun k hk => ?_
        simp -implicitDefEqProofs only [evr, id, seval, ent0, ent1, ent2, ent3, ent4, Nat.sub_zero, int_at, ow0, ow1, ow2, lkS, entS, Ent.cs, tupL, e4, e2, Int.toNat_natCast, ht2, evn]
        refine ⟨by omega, by omega, by omega, hk _ ?_⟩
        simp only [thenK]
        refine Sat.exit ?_
        simp only [thenK, blockK, reduceIte]
        refine Sat.region_k fun k hk => ?_
        simp -implicitDefEqProofs only [evr, id, seval, ent0, ent1, ent2, ent3, ent4, Nat.sub_zero, int_at, ow0, ow1, ow2, lkS, entS, Ent.cs, tupL, evn]
        rw [e2]
        refine hk _ ?_
        simp only [thenK, blockK]
        refine ⟨(i + 1, a5, c5, l.set (l.length - 1) ⟨pv, (l.getD (l.length - 1) default).from_, t2⟩), ⟨by simp only; omega, by simp only; rw [hstep]⟩, by simp only; omega, ?_⟩
        simp only [List.length_set]
        simp -implicitDefEqProofs only [evr, id, seval, ent0, ent1, ent2, ent3, ent4, Nat.sub_zero, int_at, ow0, ow1, ow2, lkS, entS, Ent.cs, tupL, evl, evn]
        have h8 := ow_set h0 t2
        rw [h3.2] at h8
        exact h8
      · simp only [decide_eq_false_iff_not] at h3
        unfold hsStep at hstep
        rw [if_neg h3] at hstep
        refine Sat.skip ?_
        simp only [thenK]
        (refine Sat.region_rows [⟨0, 63, 32, 0⟩, ⟨0, 64, 512, 0⟩, ⟨2, 65, 9223372036854775808, 1⟩, ⟨0, 66, 256, 0⟩, ⟨0, 67, 64, 0⟩, ⟨0, 68, 128, 0⟩, ⟨32, 69, 147573952589676412928, 0⟩, ⟨80, 70, 368934881474191032320, 0⟩, ⟨128, 71, 590295810358705651712, 1⟩, ⟨268, 72, 1235931852938539958272, 0⟩, ⟨512, 73, 2361183241434822606848, 2⟩, ⟨1025, 74, 4726978168888072601600, 2⟩, ⟨4095, 6, 9444732965739290427392, 0⟩] [0, 1, 3, 4, 5, 6, 7, 2, 8, 9] [(10, false), (11, false), (12, false)] [] (by kernel_rfl) (by kernel_rfl) (fun _ _ h => h) fun k hk => ?_; simp only [List.map_cons, List.map_nil, List.getD_cons_zero, List.getD_cons_succ, btseq_cons, btseq_free, btseq_nil]; simp -implicitDefEqProofs only [evr, id, seval, ent0, ent1, ent2, ent3, ent4, Nat.sub_zero, int_at, ow0, ow1, ow2, lkS, entS, Ent.cs, tupL, evn])
        simp only [e2, Int.toNat_natCast, ht2]
        refine ⟨by omega, fun bl => ⟨⟨by unfold maxLen; omega, by omega⟩, fun a7 c7 => ?_⟩⟩
        refine hk _ ?_
        simp only [thenK, blockK]
        refine Sat.region_k fun k hk => ?_
        simp -implicitDefEqProofs only [evr, id, seval, ent0, ent1, ent2, ent3, ent4, Nat.sub_zero, int_at, ow0, ow1, ow2, lkS, entS, Ent.cs, tupL, evn]
        rw [e2]
        refine hk _ ?_
        simp only [thenK, blockK]
        refine ⟨(i + 1, a7, c7, l ++ [⟨pv, t1, t2⟩]), ⟨by simp only; omega, by simp only; rw [hstep]⟩, by simp only; omega, ?_⟩
        have e7 : (l ++ [(⟨pv, t1, t2⟩ : Owd)]).length = l.length + 1 := by simp
        rw [e7]
        simp -implicitDefEqProofs only [evr, id, seval, ent0, ent1, ent2, ent3, ent4, Nat.sub_zero, int_at, ow0, ow1, ow2, lkS, entS, Ent.cs, tupL, evl, evn]
        exact ow_app l ⟨pv, t1, t2⟩
    · simp only [decide_eq_false_iff_not] at h2
      obtain rfl : i = ts.length - 1 := by omega
      refine Sat.exit ?_
      simp only [thenK, blockK, reduceIte]
      (repeat refine Sat.seq ?_)
      (refine Sat.region_k fun k hk => ?_; simp -implicitDefEqProofs only [evr, id, seval, ent0, ent1, ent2, ent3, ent4, Nat.sub_zero, int_at, ow0, ow1, ow2, lkS, entS, Ent.cs, tupL, evn]; refine hk _ ?_; clear hk k; try show Sat _ _ _ _ _)
      refine Sat.ret ?_
      simp only [Tryz.results18, evr, id, seval, List.append_nil, Int.toNat_zero, Nat.sub_self, ent0, ent1, ent2, ent3, ent4, Nat.sub_zero, int_at, ow0, ow1, ow2, lkS, entS, Ent.cs, tupL]
      rw [hv, ← hl]
      exact .inr ⟨_, _, rfl⟩
end Go.Proofs.YtepkbbmjbbnhnaaGreatDoor
