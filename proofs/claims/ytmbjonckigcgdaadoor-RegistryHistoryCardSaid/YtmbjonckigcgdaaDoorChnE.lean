/- registry.Changed, by the evaluator. -/
import Derived.Test.YtmbjonckigcgdaaDoorHisE
set_option linter.unusedSimpArgs false
set_option linter.unusedVariables false
namespace Go.Proofs.YtmbjonckigcgdaaDoor
open Go.Sort Eng
structure Ivl where
  low : Int
  high : Int
  deriving DecidableEq
instance : Inhabited Ivl := ⟨⟨0, 0⟩⟩
def Ivl.cs (o : Ivl) : List SV := [.i .i64 o.low, .i .i64 o.high]
def ivRd (l : List Ivl) : Nat → Nat → SV := fun i j => (Ivl.cs (l.getD i default)).getD j default
theorem iv0 (l : List Ivl) (i : Nat) : ivRd l i 0 = .i .i64 (l.getD i default).low := rfl
theorem iv1 (l : List Ivl) (i : Nat) : ivRd l i 1 = .i .i64 (l.getD i default).high := rfl
def endsAt (l : List Ivl) (t : Int) : Prop := 0 < l.length ∧ (l.getD (l.length - 1) default).high = t
instance (l : List Ivl) (t : Int) : Decidable (endsAt l t) := by unfold endsAt; infer_instance
def cgStep (l : List Ivl) (p q t u : Int) : List Ivl := if p = q then l else if endsAt l t then l.set (l.length - 1) ⟨(l.getD (l.length - 1) default).low, u⟩ else l ++ [⟨t, u⟩]
def chg (a : Nat) (es fs : List Ent) (ts : List Int) : Nat → List Ivl
  | 0 => []
  | k + 1 => cgStep (chg a es fs ts k) (pvd a (ts.getD k 0) es) (pvd a (ts.getD k 0) fs) (ts.getD k 0) (ts.getD (k + 1) 0)
theorem chg_len (a : Nat) (es fs : List Ent) (ts : List Int) : ∀ k, (chg a es fs ts k).length ≤ k
  | 0 => Nat.le_refl _
  | k + 1 => by
    have := chg_len a es fs ts k
    unfold chg cgStep
    split
    · omega
    · split
      · rw [List.length_set]; omega
      · rw [List.length_append, List.length_singleton]; omega
def chgL (a : Nat) (p q : RgP) : List Ivl := if RegOk p.es ∧ RegOk q.es then chg a p.es q.es (timesL a [p, q]) ((timesL a [p, q]).length - 1) else []
theorem iv_set {l : List Ivl} (h : 0 < l.length) (u : Int) : rdEq l.length 2 (rdSet (ivRd l) (l.length - 1) 1 [.i .i64 u]) (ivRd (l.set (l.length - 1) ⟨(l.getD (l.length - 1) default).low, u⟩)) := by
  intro p q hp hq
  unfold rdSet ivRd
  simp only [List.length_cons, List.length_nil]
  by_cases e : p = l.length - 1
  · subst e
    have e1 : (l.set (l.length - 1) ⟨(l.getD (l.length - 1) default).low, u⟩).getD (l.length - 1) default = ⟨(l.getD (l.length - 1) default).low, u⟩ := by
      simp [List.getD, List.getElem?_set, show l.length - 1 < l.length by omega]
    rw [e1]
    rcases (show q = 0 ∨ q = 1 by omega) with rfl | rfl <;> simp [Ivl.cs]
  · have e1 : (l.set (l.length - 1) ⟨(l.getD (l.length - 1) default).low, u⟩).getD p default = l.getD p default := by
      simp [List.getD, List.getElem?_set, Ne.symm e]
    rw [e1]
    simp [e]
theorem iv_app (l : List Ivl) (o : Ivl) : rdEq (l.length + 1) 2 (rdCat l.length (ivRd l) (rdL (Ivl.cs o) 2)) (ivRd (l ++ [o])) := by
  intro p q hp hq
  unfold rdCat rdL ivRd
  split
  · rename_i h; simp [List.getD, List.getElem?_append, h]
  · rename_i h
    obtain rfl : p = l.length := by omega
    simp [List.getD, List.getElem?_append]
set_option maxRecDepth 100000 in
theorem changedC (F : Frm) (p q : RgP) (hp : esOk p.es) (hnp : p.es.length ≤ 1000000) (hq : esOk q.es) (hnq : q.es.length ≤ 1000000) (a : Nat) (ha : a < 2 ^ 32) :
    Contract F Tryd.prog 19 [p.s, q.s, .i .u32 a] (fun r => ∃ a2 c, r = .sl a2 (chgL a p q).length c 2 (ivRd (chgL a p q))) := by
  refine Contract.same (post := fun r => (chgL a p q = [] ∧ ∃ rd, r = .sl none 0 0 0 rd) ∨ ∃ a2 c, r = .sl a2 (chgL a p q).length c 2 (ivRd (chgL a p q))) ?_ (by
    rintro r (⟨h1, rd, rfl⟩ | ⟨a2, c, h2⟩)
    · rw [h1]
      exact ⟨_, sim_nil 0 2 rd (ivRd []), none, 0, rfl⟩
    · exact ⟨r, sim_refl _, a2, c, h2⟩)
  refine contract_of Tryd.func19 rfl (by kernel_rfl) ?_
  simp only [Tryd.ntmps19, argEnv, RgP.s, regS]
  (repeat refine Sat.seq ?_)
  (refine Sat.region_k fun k hk => ?_; simp -implicitDefEqProofs only [evr, id, seval, ent0, ent1, ent2, ent3, ent4, Nat.sub_zero, int_at, iv0, iv1, lkS, entS, Ent.cs, tupL, evn])
  intro b3 b4
  (refine hk _ ?_; clear hk k; try show Sat _ _ _ _ _)
  (repeat refine Sat.seq ?_)
  refine Sat.region_at ⟨95, [(23, .b (decide (¬ (RegOk p.es ∧ RegOk q.es)))), (6, .sl none 0 0 0 fun _ _ => .v undef), (3, .op 0 b3 0), (4, .op 1 b4 0), (2, .i .u32 a)], [.box b3 29 [.sl p.ad p.es.length p.cap 5 (entRd p.es)], .box b4 29 [.sl q.ad q.es.length q.cap 5 (entRd q.es)]]⟩ (fun k hk => ?_) ?_
  · simp -implicitDefEqProofs only [evr, id, seval, ent0, ent1, ent2, ent3, ent4, Nat.sub_zero, int_at, iv0, iv1, lkS, entS, Ent.cs, tupL, evn]
    refine wcall_plain (regValidC F p.ad p.cap p.es hp) (by simp -implicitDefEqProofs only [evr, id, seval, ent0, ent1, ent2, ent3, ent4, Nat.sub_zero, int_at, iv0, iv1, lkS, entS, Ent.cs, tupL, evn]; rfl) (by rintro _ rfl; exact ok_plain rfl) ?_
    rintro r rfl
    simp -implicitDefEqProofs only [evr, id, seval, ent0, ent1, ent2, ent3, ent4, Nat.sub_zero, int_at, iv0, iv1, lkS, entS, Ent.cs, tupL, evn]
    refine ⟨fun h1 => ?_, fun h1 => ?_⟩
    · refine hk _ ?_
      have e9 : decide (¬ (RegOk p.es ∧ RegOk q.es)) = true := decide_eq_true (fun h9 => by simp [h9.1] at h1)
      simp only [e9]
      simp -implicitDefEqProofs only [evr, id, seval, ent0, ent1, ent2, ent3, ent4, Nat.sub_zero, int_at, iv0, iv1, lkS, entS, Ent.cs, tupL, evl, evn]
      done
    · refine wcall_plain (regValidC F q.ad q.cap q.es hq) (by simp -implicitDefEqProofs only [evr, id, seval, ent0, ent1, ent2, ent3, ent4, Nat.sub_zero, int_at, iv0, iv1, lkS, entS, Ent.cs, tupL, evn]; rfl) (by rintro _ rfl; exact ok_plain rfl) ?_
      rintro r rfl
      simp -implicitDefEqProofs only [evr, id, seval, ent0, ent1, ent2, ent3, ent4, Nat.sub_zero, int_at, iv0, iv1, lkS, entS, Ent.cs, tupL, evn]
      refine hk _ ?_
      have e9 : decide (¬ (RegOk p.es ∧ RegOk q.es)) = !decide (RegOk q.es) := by
        simp only [Bool.not_eq_false', decide_eq_true_eq] at h1
        apply Bool.eq_iff_iff.2
        simp [h1]
      simp only [e9]
      simp -implicitDefEqProofs only [evr, id, seval, ent0, ent1, ent2, ent3, ent4, Nat.sub_zero, int_at, iv0, iv1, lkS, entS, Ent.cs, tupL, evl, evn]
      done
  refine Sat.cond_b rfl (fun h1 => ?_) (fun h1 => ?_)
  · simp only [decide_eq_true_eq] at h1
    (repeat refine Sat.seq ?_)
    (refine Sat.region_k fun k hk => ?_; simp -implicitDefEqProofs only [evr, id, seval, ent0, ent1, ent2, ent3, ent4, Nat.sub_zero, int_at, iv0, iv1, lkS, entS, Ent.cs, tupL, evn]; refine hk _ ?_; clear hk k; try show Sat _ _ _ _ _)
    refine Sat.ret ?_
    simp only [Tryd.results19, evr, id, seval, List.append_nil, Int.toNat_zero, Nat.sub_self, ent0, ent1, ent2, ent3, ent4, Nat.sub_zero, int_at, iv0, iv1, lkS, entS, Ent.cs, tupL]
    refine .inl ⟨?_, _, rfl⟩
    unfold chgL
    rw [if_neg h1]
  · simp only [decide_eq_false_iff_not, Decidable.not_not] at h1
    have hv : chgL a p q = chg a p.es q.es (timesL a [p, q]) ((timesL a [p, q]).length - 1) := by unfold chgL; rw [if_pos h1]
    have hrs : rsOk [p, q] := fun r hr => by
      rcases List.mem_cons.1 hr with rfl | hr
      · exact ⟨hp, h1.1.1⟩
      · rw [List.mem_singleton.1 hr]; exact ⟨hq, h1.2.1⟩
    have htl := timesL_len a [p, q] hrs
    simp only [List.length_cons, List.length_nil] at htl
    refine Sat.skip ?_
    simp only [thenK]
    (repeat refine Sat.seq ?_)
    (refine Sat.region_k fun k hk => ?_; simp -implicitDefEqProofs only [evr, id, seval, ent0, ent1, ent2, ent3, ent4, Nat.sub_zero, int_at, iv0, iv1, lkS, entS, Ent.cs, tupL, evn]; refine hk _ ?_; clear hk k; try show Sat _ _ _ _ _)
    refine Sat.adopt 7 55 2 (ivRd []) rfl ?_
    (repeat refine Sat.seq ?_)
    (refine Sat.region_k fun k hk => ?_; simp -implicitDefEqProofs only [evr, id, seval, ent0, ent1, ent2, ent3, ent4, Nat.sub_zero, int_at, iv0, iv1, lkS, entS, Ent.cs, tupL, evn])
    intro b17
    refine wcall_slice ((timesC F (some ⟨b17, 0, none⟩) 2 [p, q] hrs (by simp) a ha).of_sim (args := [.i .u32 a, .sl (some ⟨b17, 0, none⟩) 2 2 1 (rdL [.sl p.ad p.es.length p.cap 5 (entRd p.es), .sl q.ad q.es.length q.cap 5 (entRd q.es)] 1)]) ⟨sim_refl _, sim_sl (fun i j hi hj => by
      obtain rfl : j = 0 := by omega
      have hi2 : i < 2 := hi
      rcases (show i = 0 ∨ i = 1 by omega) with rfl | rfl <;> rfl), trivial⟩) rfl (by simp -implicitDefEqProofs only [evr, id, seval, ent0, ent1, ent2, ent3, ent4, Nat.sub_zero, int_at, iv0, iv1, lkS, entS, Ent.cs, tupL, evn]) ?_
    rintro _ ⟨a6, c6, rfl⟩
    simp -implicitDefEqProofs only [evr, id, seval, ent0, ent1, ent2, ent3, ent4, Nat.sub_zero, int_at, iv0, iv1, lkS, entS, Ent.cs, tupL, evn]
    generalize hts : timesL a [p, q] = ts at hv htl ⊢
    have htp : 0 < ts.length := hts ▸ timesL_pos a [p, q]
    have e1 : IntKind.i64.wrap ((ts.length : Int) - 1) = ((ts.length - 1 : Nat) : Int) := by rw [w64 (by omega)]; omega
    (refine hk _ ?_; clear hk k; try show Sat _ _ _ _ _)
    (repeat refine Sat.seq ?_)
    (refine Sat.region_k fun k hk => ?_; simp -implicitDefEqProofs only [evr, id, seval, ent0, ent1, ent2, ent3, ent4, Nat.sub_zero, int_at, iv0, iv1, lkS, entS, Ent.cs, tupL, evn])
    simp only [e1, Int.toNat_natCast]
    generalize (if c6 = 0 then a6 else Option.map (fun x : Addr => x.add 0) a6) = a8
    refine ⟨⟨by omega, by omega⟩, ?_⟩
    (refine hk _ ?_; clear hk k; try show Sat _ _ _ _ _)
    (repeat refine Sat.seq ?_)
    refine Sat.block ?_
    refine Sat.loop (ι := Nat × Option Addr × Nat × List Ivl) (fun x => ⟨95, [(35, .i .i64 x.1), (34, .i .i64 (ts.length - 1 : Nat)), (33, .sl a8 (ts.length - 1) c6 1 (intsA ts.toArray)), (8, .sl a6 ts.length c6 1 (intsA ts.toArray)), (7, .os 2 x.2.1 x.2.2.2.length x.2.2.1), (3, .op 0 b3 0), (4, .op 1 b4 0), (2, .i .u32 a)],
      [.box b3 29 [.sl p.ad p.es.length p.cap 5 (entRd p.es)], .box b4 29 [.sl q.ad q.es.length q.cap 5 (entRd q.es)], .row x.2.1 55 x.2.2.2.length x.2.2.1 2 (ivRd x.2.2.2)]⟩)
      (fun x => x.1 ≤ ts.length - 1 ∧ x.2.2.2 = chg a p.es q.es ts x.1) (fun x => ts.length - 1 - x.1) (0, none, 0, []) ⟨Nat.zero_le _, rfl⟩ (by simp -implicitDefEqProofs only [evr, id, seval, ent0, ent1, ent2, ent3, ent4, Nat.sub_zero, int_at, iv0, iv1, lkS, entS, Ent.cs, tupL, evl, evn]; rfl) ?_
    rintro ⟨i, a5, c5, l⟩ ⟨hi, hl⟩
    simp only at hi hl ⊢
    have hll : l.length ≤ i := hl ▸ chg_len a p.es q.es ts i
    (repeat refine Sat.seq ?_)
    (refine Sat.region_k fun k hk => ?_; simp -implicitDefEqProofs only [evr, id, seval, ent0, ent1, ent2, ent3, ent4, Nat.sub_zero, int_at, iv0, iv1, lkS, entS, Ent.cs, tupL, evn]; refine hk _ ?_; clear hk k; try show Sat _ _ _ _ _)
    (repeat refine Sat.seq ?_)
    refine Sat.cond_b rfl (fun h2 => ?_) (fun h2 => ?_)
    · simp only [decide_eq_true_eq] at h2
      have hlt : i < ts.length - 1 := by omega
      have e2 : IntKind.i64.wrap ((i : Int) + 1) = ((i + 1 : Nat) : Int) := by rw [w64 (by omega)]; omega
      have hstep : chg a p.es q.es ts (i + 1) = cgStep (chg a p.es q.es ts i) (pvd a (ts.getD i 0) p.es) (pvd a (ts.getD i 0) q.es) (ts.getD i 0) (ts.getD (i + 1) 0) := rfl
      rw [← hl] at hstep
      have ht1 := intsA_getD ts i (by omega)
      have ht2 := intsA_getD ts (i + 1) (by omega)
      refine Sat.skip ?_
      simp only [thenK]
      (repeat refine Sat.seq ?_)
      refine Sat.block ?_
      (repeat refine Sat.seq ?_)
      (refine Sat.region_k fun k hk => ?_; simp -implicitDefEqProofs only [evr, id, seval, ent0, ent1, ent2, ent3, ent4, Nat.sub_zero, int_at, iv0, iv1, lkS, entS, Ent.cs, tupL, evn])
      rw [ht1]
      refine ⟨by omega, ?_⟩
      (refine hk _ ?_; clear hk k; try show Sat _ _ _ _ _)
      generalize hx1 : ts.getD i 0 = t1 at hstep ⊢
      generalize hx2 : ts.getD (i + 1) 0 = t2 at hstep ht2
      (repeat refine Sat.seq ?_)
      (refine Sat.region_k fun k hk => ?_; simp -implicitDefEqProofs only [evr, id, seval, ent0, ent1, ent2, ent3, ent4, Nat.sub_zero, int_at, iv0, iv1, lkS, entS, Ent.cs, tupL, evn])
      refine wcall_plain (lookC F p.ad p.cap p.es hp hnp a ha t1) (by simp -implicitDefEqProofs only [evr, id, seval, ent0, ent1, ent2, ent3, ent4, Nat.sub_zero, int_at, iv0, iv1, lkS, entS, Ent.cs, tupL, evn]; rfl) (by rintro _ rfl; exact lkS_ok _) ?_
      rintro r rfl
      simp -implicitDefEqProofs only [evr, id, seval, ent0, ent1, ent2, ent3, ent4, Nat.sub_zero, int_at, iv0, iv1, lkS, entS, Ent.cs, tupL, evn]
      intro b11
      have hpv : (optE (lkp a t1 p.es)).prov = pvd a t1 p.es := rfl
      rw [hpv]
      generalize pvd a t1 p.es = pv at hstep ⊢
      (refine hk _ ?_; clear hk k; try show Sat _ _ _ _ _)
      (repeat refine Sat.seq ?_)
      (refine Sat.region_k fun k hk => ?_; simp -implicitDefEqProofs only [evr, id, seval, ent0, ent1, ent2, ent3, ent4, Nat.sub_zero, int_at, iv0, iv1, lkS, entS, Ent.cs, tupL, evn])
      refine wcall_plain (lookC F q.ad q.cap q.es hq hnq a ha t1) (by simp -implicitDefEqProofs only [evr, id, seval, ent0, ent1, ent2, ent3, ent4, Nat.sub_zero, int_at, iv0, iv1, lkS, entS, Ent.cs, tupL, evn]; rfl) (by rintro _ rfl; exact lkS_ok _) ?_
      rintro r rfl
      simp -implicitDefEqProofs only [evr, id, seval, ent0, ent1, ent2, ent3, ent4, Nat.sub_zero, int_at, iv0, iv1, lkS, entS, Ent.cs, tupL, evn]
      intro b13
      have hqv : (optE (lkp a t1 q.es)).prov = pvd a t1 q.es := rfl
      rw [hqv]
      generalize pvd a t1 q.es = qv at hstep ⊢
      (refine hk _ ?_; clear hk k; try show Sat _ _ _ _ _)
      (repeat refine Sat.seq ?_)
      (refine Sat.region_k fun k hk => ?_; simp -implicitDefEqProofs only [evr, id, seval, ent0, ent1, ent2, ent3, ent4, Nat.sub_zero, int_at, iv0, iv1, lkS, entS, Ent.cs, tupL, evn]; refine hk _ ?_; clear hk k; try show Sat _ _ _ _ _)
      (repeat refine Sat.seq ?_)
      refine Sat.cond_b rfl (fun h4 => ?_) (fun h4 => ?_)
      · simp only [beq_iff_eq] at h4
        unfold cgStep at hstep
        rw [if_pos h4] at hstep
        refine Sat.exit ?_
        simp only [thenK, blockK, reduceIte]
        refine Sat.region_k fun k hk => ?_
        simp -implicitDefEqProofs only [evr, id, seval, ent0, ent1, ent2, ent3, ent4, Nat.sub_zero, int_at, iv0, iv1, lkS, entS, Ent.cs, tupL, evn]
        rw [e2]
        refine hk _ ?_
        simp only [thenK, blockK]
        refine ⟨(i + 1, a5, c5, l), ⟨by simp only; omega, by simp only; rw [hstep]⟩, by simp only; omega, ?_⟩
        simp -implicitDefEqProofs only [evr, id, seval, ent0, ent1, ent2, ent3, ent4, Nat.sub_zero, int_at, iv0, iv1, lkS, entS, Ent.cs, tupL, evl, evn]
      · simp only [beq_eq_false_iff_ne, ne_eq] at h4
        unfold cgStep at hstep
        rw [if_neg h4] at hstep
        refine Sat.skip ?_
        simp only [thenK]
        (repeat refine Sat.seq ?_)
        (refine Sat.region_k fun k hk => ?_; simp -implicitDefEqProofs only [evr, id, seval, ent0, ent1, ent2, ent3, ent4, Nat.sub_zero, int_at, iv0, iv1, lkS, entS, Ent.cs, tupL, evn]; refine hk _ ?_; clear hk k; try show Sat _ _ _ _ _)
        (repeat refine Sat.seq ?_)
        refine Sat.region_at ⟨95, [(72, .b (decide (endsAt l t1))), (15, .i .i64 l.length), (9, .i .i64 i), (10, .i .i64 t1), (35, .i .i64 i), (34, .i .i64 (ts.length - 1 : Nat)), (33, .sl a8 (ts.length - 1) c6 1 (intsA ts.toArray)), (8, .sl a6 ts.length c6 1 (intsA ts.toArray)), (7, .os 2 a5 l.length c5), (3, .op 0 b3 0), (4, .op 1 b4 0), (2, .i .u32 a)],
          [.box b3 29 [.sl p.ad p.es.length p.cap 5 (entRd p.es)], .box b4 29 [.sl q.ad q.es.length q.cap 5 (entRd q.es)], .row a5 55 l.length c5 2 (ivRd l)]⟩ (fun k hk => ?_) ?_
        · have e3 : 0 < l.length → IntKind.i64.wrap ((l.length : Int) - 1) = ((l.length - 1 : Nat) : Int) := fun h0 => by rw [w64 (by omega)]; omega
          rcases Nat.eq_zero_or_pos l.length with h0 | h0
          · simp -implicitDefEqProofs only [evr, id, seval, ent0, ent1, ent2, ent3, ent4, Nat.sub_zero, int_at, iv0, iv1, lkS, entS, Ent.cs, tupL, evn]
            repeat' (first
            | (with_reducible refine And.intro ?_ ?_)
            | (with_reducible intro hh)
            | omega
            | (with_reducible refine hk _ ?_
               first
               | (have e9 : decide (endsAt l t1) = false := by
                    clear hk
                    apply decide_eq_false
                    unfold endsAt
                    rintro ⟨g1, g2⟩
                    omega
                  simp only [e9]
                  simp -implicitDefEqProofs only [evr, id, seval, ent0, ent1, ent2, ent3, ent4, Nat.sub_zero, int_at, iv0, iv1, lkS, entS, Ent.cs, tupL, evl, evn]
                  done)))
          · have e4 := e3 h0
            simp -implicitDefEqProofs only [evr, id, seval, ent0, ent1, ent2, ent3, ent4, Nat.sub_zero, int_at, iv0, iv1, lkS, entS, Ent.cs, tupL, e4, Int.toNat_natCast, evn]
            repeat' (first
            | (with_reducible refine And.intro ?_ ?_)
            | (with_reducible intro hh)
            | omega
            | (with_reducible refine hk _ ?_
               first
               | (have e9 : decide (endsAt l t1) = ((l.getD (l.length - 1) default).high == t1) := by
                    clear hk
                    apply Bool.eq_iff_iff.2
                    rw [decide_eq_true_eq, beq_iff_eq]
                    unfold endsAt
                    constructor
                    · exact fun h => h.2
                    · exact fun h => ⟨by omega, h⟩
                  simp only [e9]
                  simp -implicitDefEqProofs only [evr, id, seval, ent0, ent1, ent2, ent3, ent4, Nat.sub_zero, int_at, iv0, iv1, lkS, entS, Ent.cs, tupL, evl, evn]
                  done)))
        refine Sat.cond_b rfl (fun h3 => ?_) (fun h3 => ?_)
        · simp only [decide_eq_true_eq] at h3
          have h0 := h3.1
          have e4 : IntKind.i64.wrap ((l.length : Int) - 1) = ((l.length - 1 : Nat) : Int) := by rw [w64 (by omega)]; omega
          rw [if_pos h3] at hstep
          (repeat refine Sat.seq ?_)
          refine Sat.region_k fun k hk => ?_
          simp -implicitDefEqProofs only [evr, id, seval, ent0, ent1, ent2, ent3, ent4, Nat.sub_zero, int_at, iv0, iv1, lkS, entS, Ent.cs, tupL, e4, e2, Int.toNat_natCast, ht2, evn]
          refine ⟨by omega, by omega, by omega, hk _ ?_⟩
          simp only [thenK]
          refine Sat.exit ?_
          simp only [thenK, blockK, reduceIte]
          refine Sat.region_k fun k hk => ?_
          simp -implicitDefEqProofs only [evr, id, seval, ent0, ent1, ent2, ent3, ent4, Nat.sub_zero, int_at, iv0, iv1, lkS, entS, Ent.cs, tupL, evn]
          rw [e2]
          refine hk _ ?_
          simp only [thenK, blockK]
          refine ⟨(i + 1, a5, c5, l.set (l.length - 1) ⟨(l.getD (l.length - 1) default).low, t2⟩), ⟨by simp only; omega, by simp only; rw [hstep]⟩, by simp only; omega, ?_⟩
          simp only [List.length_set]
          simp -implicitDefEqProofs only [evr, id, seval, ent0, ent1, ent2, ent3, ent4, Nat.sub_zero, int_at, iv0, iv1, lkS, entS, Ent.cs, tupL, evl, evn]
          exact iv_set h0 t2
        · simp only [decide_eq_false_iff_not] at h3
          rw [if_neg h3] at hstep
          refine Sat.skip ?_
          simp only [thenK]
          (repeat refine Sat.seq ?_)
          (refine Sat.region_k fun k hk => ?_; simp -implicitDefEqProofs only [evr, id, seval, ent0, ent1, ent2, ent3, ent4, Nat.sub_zero, int_at, iv0, iv1, lkS, entS, Ent.cs, tupL, evn])
          simp only [e2, Int.toNat_natCast, ht2]
          refine ⟨by omega, fun bl => ⟨⟨by unfold maxLen; omega, by omega⟩, fun a7 c7 => ?_⟩⟩
          refine hk _ ?_
          simp only [thenK, blockK]
          refine Sat.region_k fun k hk => ?_
          simp -implicitDefEqProofs only [evr, id, seval, ent0, ent1, ent2, ent3, ent4, Nat.sub_zero, int_at, iv0, iv1, lkS, entS, Ent.cs, tupL, evn]
          rw [e2]
          refine hk _ ?_
          simp only [thenK, blockK]
          refine ⟨(i + 1, a7, c7, l ++ [⟨t1, t2⟩]), ⟨by simp only; omega, by simp only; rw [hstep]⟩, by simp only; omega, ?_⟩
          have e7 : (l ++ [(⟨t1, t2⟩ : Ivl)]).length = l.length + 1 := by simp
          rw [e7]
          simp -implicitDefEqProofs only [evr, id, seval, ent0, ent1, ent2, ent3, ent4, Nat.sub_zero, int_at, iv0, iv1, lkS, entS, Ent.cs, tupL, evl, evn]
          exact iv_app l ⟨t1, t2⟩
    · simp only [decide_eq_false_iff_not] at h2
      obtain rfl : i = ts.length - 1 := by omega
      refine Sat.exit ?_
      simp only [thenK, blockK, reduceIte]
      (repeat refine Sat.seq ?_)
      (refine Sat.region_k fun k hk => ?_; simp -implicitDefEqProofs only [evr, id, seval, ent0, ent1, ent2, ent3, ent4, Nat.sub_zero, int_at, iv0, iv1, lkS, entS, Ent.cs, tupL, evn]; refine hk _ ?_; clear hk k; try show Sat _ _ _ _ _)
      refine Sat.ret ?_
      simp only [Tryd.results19, evr, id, seval, List.append_nil, Int.toNat_zero, Nat.sub_self, ent0, ent1, ent2, ent3, ent4, Nat.sub_zero, int_at, iv0, iv1, lkS, entS, Ent.cs, tupL]
      rw [hv, ← hl]
      exact .inr ⟨_, _, rfl⟩
end Go.Proofs.YtmbjonckigcgdaaDoor
