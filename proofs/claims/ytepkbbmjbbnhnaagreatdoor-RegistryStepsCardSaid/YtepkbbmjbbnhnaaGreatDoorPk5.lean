/- registry.Changed, by the evaluator. -/
import Derived.Test.YtepkbbmjbbnhnaaGreatDoorHisE
import Derived.Test.YtepkbbmjbbnhnaaGreatDoorRqE
import Derived.Test.YtepkbbmjbbnhnaaGreatDoorRqC
import Derived.Test.YtepkbbmjbbnhnaaGreatDoorAddM
import Derived.Test.YtepkbbmjbbnhnaaGreatDoorRqM
import Derived.Test.YtepkbbmjbbnhnaaGreatDoorRtdE
import Derived.Test.YtepkbbmjbbnhnaaGreatDoorDrgE
import Derived.Test.YtepkbbmjbbnhnaaGreatDoorRadE
import Derived.Test.YtepkbbmjbbnhnaaGreatDoorAwrM
import Derived.Test.YtepkbbmjbbnhnaaGreatDoorLkpE
import Derived.Test.YtepkbbmjbbnhnaaGreatDoorPvrE
import Derived.Test.YtepkbbmjbbnhnaaGreatDoorRqF
import Derived.Test.YtepkbbmjbbnhnaaGreatDoorOpenE
import Derived.Test.YtepkbbmjbbnhnaaGreatDoorPk4
set_option linter.unusedSimpArgs false
set_option linter.unusedVariables false
namespace Go.Proofs.YtepkbbmjbbnhnaaGreatDoor
open Go.Sort Eng
structure Ivl where
  low : Int
  high : Int
  deriving DecidableEq
instance : Inhabited Ivl := ⟨⟨0, 0⟩⟩
def Ivl.cs (o : Ivl) : List SV := [.i .i64 o.low, .i .i64 o.high]
def ivRd (l : List Ivl) : Nat → Nat → SV := fun i j => (Ivl.cs (l.getD i default)).getD j default
theorem iv0 (l : List Ivl) (i : Nat) : ivRd l i 0 = .i .i64 (l.getD i default).low := rfl
theorem iv1 (l : List Ivl) (i : Nat) : ivRd l i 1 = .i .i64 (l.getD i default).high := rfl
def endsAt (l : List Ivl) (t : Int) : Prop := 0 < l.length ∧ (l.getD (l.length - 1) default).high = t
instance (l : List Ivl) (t : Int) : Decidable (endsAt l t) := by unfold endsAt; infer_instance
def cgStep (l : List Ivl) (p q t u : Int) : List Ivl := if p = q then l else if endsAt l t then l.set (l.length - 1) ⟨(l.getD (l.length - 1) default).low, u⟩ else l ++ [⟨t, u⟩]
def chg (a : Nat) (es fs : List Ent) (ts : List Int) : Nat → List Ivl
  | 0 => []
  | k + 1 => cgStep (chg a es fs ts k) (pvd a (ts.getD k 0) es) (pvd a (ts.getD k 0) fs) (ts.getD k 0) (ts.getD (k + 1) 0)
theorem chg_len (a : Nat) (es fs : List Ent) (ts : List Int) : ∀ k, (chg a es fs ts k).length ≤ k
  | 0 => Nat.le_refl _
  | k + 1 => by
    have := chg_len a es fs ts k
    unfold chg cgStep
    split
    · omega
    · split
      · rw [List.length_set]; omega
      · rw [List.length_append, List.length_singleton]; omega
def chgL (a : Nat) (p q : RgP) : List Ivl := if RegOk p.es ∧ RegOk q.es then chg a p.es q.es (timesL a [p, q]) ((timesL a [p, q]).length - 1) else []
theorem iv_set {l : List Ivl} (h : 0 < l.length) (u : Int) : rdEq l.length 2 (rdSet (ivRd l) (l.length - 1) 1 [.i .i64 u]) (ivRd (l.set (l.length - 1) ⟨(l.getD (l.length - 1) default).low, u⟩)) := by
  intro p q hp hq
  unfold rdSet ivRd
  simp only [List.length_cons, List.length_nil]
  by_cases e : p = l.length - 1
  · subst e
    have e1 : (l.set (l.length - 1) ⟨(l.getD (l.length - 1) default).low, u⟩).getD (l.length - 1) default = ⟨(l.getD (l.length - 1) default).low, u⟩ := by
      simp [List.getD, List.getElem?_set, show l.length - 1 < l.length by omega]
    rw [e1]
    rcases (show q = 0 ∨ q = 1 by omega) with rfl | rfl <;> simp [Ivl.cs]
  · have e1 : (l.set (l.length - 1) ⟨(l.getD (l.length - 1) default).low, u⟩).getD p default = l.getD p default := by
      simp [List.getD, List.getElem?_set, Ne.symm e]
    rw [e1]
    simp [e]
theorem iv_app (l : List Ivl) (o : Ivl) : rdEq (l.length + 1) 2 (rdCat l.length (ivRd l) (rdL (Ivl.cs o) 2)) (ivRd (l ++ [o])) := by
  intro p q hp hq
  unfold rdCat rdL ivRd
  split
  · rename_i h; simp [List.getD, List.getElem?_append, h]
  · rename_i h
    obtain rfl : p = l.length := by omega
    simp [List.getD, List.getElem?_append]
set_option maxRecDepth 100000 in
theorem changedC (F : Frm) (p q : RgP) (hp : esOk p.es) (hnp : p.es.length ≤ 1000000) (hq : esOk q.es) (hnq : q.es.length ≤ 1000000) (a : Nat) (ha : a < 2 ^ 32) :
    Contract F Tryz.prog 20 [p.s, q.s, .i .u32 a] (fun r => ∃ a2 c, r = .sl a2 (chgL a p q).length c 2 (ivRd (chgL a p q))) := by
  refine Contract.same (post := fun r => (chgL a p q = [] ∧ ∃ rd, r = .sl none 0 0 0 rd) ∨ ∃ a2 c, r = .sl a2 (chgL a p q).length c 2 (ivRd (chgL a p q))) ?_ (by
    rintro r (⟨h1, rd, rfl⟩ | ⟨a2, c, h2⟩)
    · rw [h1]
      exact ⟨_, sim_nil 0 2 rd (ivRd []), none, 0, rfl⟩
    · exact ⟨r, sim_refl _, a2, c, h2⟩)
  refine contract_of Tryz.func20 rfl (by kernel_rfl) ?_
  simp only [Tryz.ntmps20, argEnv, RgP.s, regS]
  (repeat refine Sat.seq ?_)
  (refine Sat.region_k fun k hk => ?_; simp -implicitDefEqProofs only [evr, id, seval, ent0, ent1, ent2, ent3, ent4, Nat.sub_zero, int_at, iv0, iv1, lkS, entS, Ent.cs, tupL, evn])
  intro b3 b4
  (refine hk _ ?_; clear hk k; try show Sat _ _ _ _ _)
  (repeat refine Sat.seq ?_)
  refine Sat.region_at ⟨95, [(23, .b (decide (¬ (RegOk p.es ∧ RegOk q.es)))), (6, .sl none 0 0 0 fun _ _ => .v undef), (3, .op 0 b3 0), (4, .op 1 b4 0), (2, .i .u32 a)], [.box b3 25 [.sl p.ad p.es.length p.cap 5 (entRd p.es)], .box b4 25 [.sl q.ad q.es.length q.cap 5 (entRd q.es)]]⟩ (fun k hk => ?_) ?_
  · simp -implicitDefEqProofs only [evr, id, seval, ent0, ent1, ent2, ent3, ent4, Nat.sub_zero, int_at, iv0, iv1, lkS, entS, Ent.cs, tupL, evn]
    refine wcall_plain (regValidC F p.ad p.cap p.es hp) (by simp -implicitDefEqProofs only [evr, id, seval, ent0, ent1, ent2, ent3, ent4, Nat.sub_zero, int_at, iv0, iv1, lkS, entS, Ent.cs, tupL, evn]; rfl) (by rintro _ rfl; exact ok_plain rfl) ?_
    rintro r rfl
    simp -implicitDefEqProofs only [evr, id, seval, ent0, ent1, ent2, ent3, ent4, Nat.sub_zero, int_at, iv0, iv1, lkS, entS, Ent.cs, tupL, evn]
    refine ⟨fun h1 => ?_, fun h1 => ?_⟩
    · refine hk _ ?_
      have e9 : decide (¬ (RegOk p.es ∧ RegOk q.es)) = true := decide_eq_true (fun h9 => by simp [h9.1] at h1)
      simp only [e9]
      simp -implicitDefEqProofs only [evr, id, seval, ent0, ent1, ent2, ent3, ent4, Nat.sub_zero, int_at, iv0, iv1, lkS, entS, Ent.cs, tupL, evl, evn]
      done
    · refine wcall_plain (regValidC F q.ad q.cap q.es hq) (by simp -implicitDefEqProofs only [evr, id, seval, ent0, ent1, ent2, ent3, ent4, Nat.sub_zero, int_at, iv0, iv1, lkS, entS, Ent.cs, tupL, evn]; rfl) (by rintro _ rfl; exact ok_plain rfl) ?_
      rintro r rfl
      simp -implicitDefEqProofs only [evr, id, seval, ent0, ent1, ent2, ent3, ent4, Nat.sub_zero, int_at, iv0, iv1, lkS, entS, Ent.cs, tupL, evn]
      refine hk _ ?_
      have e9 : decide (¬ (RegOk p.es ∧ RegOk q.es)) = !decide (RegOk q.es) := by
        simp only [Bool.not_eq_false', decide_eq_true_eq] at h1
        apply Bool.eq_iff_iff.2
        simp [h1]
      simp only [e9]
      simp -implicitDefEqProofs only [evr, id, seval, ent0, ent1, ent2, ent3, ent4, Nat.sub_zero, int_at, iv0, iv1, lkS, entS, Ent.cs, tupL, evl, evn]
      done
  refine Sat.cond_b rfl (fun h1 => ?_) (fun h1 => ?_)
  · simp only [decide_eq_true_eq] at h1
    (repeat refine Sat.seq ?_)
    (refine Sat.region_k fun k hk => ?_; simp -implicitDefEqProofs only [evr, id, seval, ent0, ent1, ent2, ent3, ent4, Nat.sub_zero, int_at, iv0, iv1, lkS, entS, Ent.cs, tupL, evn]; refine hk _ ?_; clear hk k; try show Sat _ _ _ _ _)
    refine Sat.ret ?_
    simp only [Tryz.results20, evr, id, seval, List.append_nil, Int.toNat_zero, Nat.sub_self, ent0, ent1, ent2, ent3, ent4, Nat.sub_zero, int_at, iv0, iv1, lkS, entS, Ent.cs, tupL]
    refine .inl ⟨?_, _, rfl⟩
    unfold chgL
    rw [if_neg h1]
  · simp only [decide_eq_false_iff_not, Decidable.not_not] at h1
    have hv : chgL a p q = chg a p.es q.es (timesL a [p, q]) ((timesL a [p, q]).length - 1) := by unfold chgL; rw [if_pos h1]
    have hrs : rsOk [p, q] := fun r hr => by
      rcases List.mem_cons.1 hr with rfl | hr
      · exact ⟨hp, h1.1.1⟩
      · rw [List.mem_singleton.1 hr]; exact ⟨hq, h1.2.1⟩
    have htl := timesL_len a [p, q] hrs
    simp only [List.length_cons, List.length_nil] at htl
    refine Sat.skip ?_
    simp only [thenK]
    (repeat refine Sat.seq ?_)
    (refine Sat.region_k fun k hk => ?_; simp -implicitDefEqProofs only [evr, id, seval, ent0, ent1, ent2, ent3, ent4, Nat.sub_zero, int_at, iv0, iv1, lkS, entS, Ent.cs, tupL, evn]; refine hk _ ?_; clear hk k; try show Sat _ _ _ _ _)
    refine Sat.adopt 7 53 2 (ivRd []) rfl ?_
    (repeat refine Sat.seq ?_)
    (refine Sat.region_k fun k hk => ?_; simp -implicitDefEqProofs only [evr, id, seval, ent0, ent1, ent2, ent3, ent4, Nat.sub_zero, int_at, iv0, iv1, lkS, entS, Ent.cs, tupL, evn])
    intro b17
    refine wcall_slice ((timesC F (some ⟨b17, 0, none⟩) 2 [p, q] hrs (by simp) a ha).of_sim (args := [.i .u32 a, .sl (some ⟨b17, 0, none⟩) 2 2 1 (rdL [.sl p.ad p.es.length p.cap 5 (entRd p.es), .sl q.ad q.es.length q.cap 5 (entRd q.es)] 1)]) ⟨sim_refl _, sim_sl (fun i j hi hj => by
      obtain rfl : j = 0 := by omega
      have hi2 : i < 2 := hi
      rcases (show i = 0 ∨ i = 1 by omega) with rfl | rfl <;> rfl), trivial⟩) rfl (by simp -implicitDefEqProofs only [evr, id, seval, ent0, ent1, ent2, ent3, ent4, Nat.sub_zero, int_at, iv0, iv1, lkS, entS, Ent.cs, tupL, evn]) ?_
    rintro _ ⟨a6, c6, rfl⟩
    simp -implicitDefEqProofs only [evr, id, seval, ent0, ent1, ent2, ent3, ent4, Nat.sub_zero, int_at, iv0, iv1, lkS, entS, Ent.cs, tupL, evn]
    generalize hts : timesL a [p, q] = ts at hv htl ⊢
    have htp : 0 < ts.length := hts ▸ timesL_pos a [p, q]
    have e1 : IntKind.i64.wrap ((ts.length : Int) - 1) = ((ts.length - 1 : Nat) : Int) := by rw [w64 (by omega)]; omega
    (refine hk _ ?_; clear hk k; try show Sat _ _ _ _ _)
    (repeat refine Sat.seq ?_)
    (refine Sat.region_k fun k hk => ?_; simp -implicitDefEqProofs only [evr, id, seval, ent0, ent1, ent2, ent3, ent4, Nat.sub_zero, int_at, iv0, iv1, lkS, entS, Ent.cs, tupL, evn])
    simp only [e1, Int.toNat_natCast]
    generalize (if c6 = 0 then a6 else Option.map (fun x : Addr => x.add 0) a6) = a8
    refine ⟨⟨by omega, by omega⟩, ?_⟩
    (refine hk _ ?_; clear hk k; try show Sat _ _ _ _ _)
    (repeat refine Sat.seq ?_)
    refine Sat.block ?_
    refine Sat.loop (ι := Nat × Option Addr × Nat × List Ivl) (fun x => ⟨95, [(35, .i .i64 x.1), (34, .i .i64 (ts.length - 1 : Nat)), (33, .sl a8 (ts.length - 1) c6 1 (intsA ts.toArray)), (8, .sl a6 ts.length c6 1 (intsA ts.toArray)), (7, .os 2 x.2.1 x.2.2.2.length x.2.2.1), (3, .op 0 b3 0), (4, .op 1 b4 0), (2, .i .u32 a)],
      [.box b3 25 [.sl p.ad p.es.length p.cap 5 (entRd p.es)], .box b4 25 [.sl q.ad q.es.length q.cap 5 (entRd q.es)], .row x.2.1 53 x.2.2.2.length x.2.2.1 2 (ivRd x.2.2.2)]⟩)
      (fun x => x.1 ≤ ts.length - 1 ∧ x.2.2.2 = chg a p.es q.es ts x.1) (fun x => ts.length - 1 - x.1) (0, none, 0, []) ⟨Nat.zero_le _, rfl⟩ (by simp -implicitDefEqProofs only [evr, id, seval, ent0, ent1, ent2, ent3, ent4, Nat.sub_zero, int_at, iv0, iv1, lkS, entS, Ent.cs, tupL, evl, evn]; rfl) ?_
    rintro ⟨i, a5, c5, l⟩ ⟨hi, hl⟩
    simp only at hi hl ⊢
    have hll : l.length ≤ i := hl ▸ chg_len a p.es q.es ts i
    (repeat refine Sat.seq ?_)
    (refine Sat.region_k fun k hk => ?_; simp -implicitDefEqProofs only [evr, id, seval, ent0, ent1, ent2, ent3, ent4, Nat.sub_zero, int_at, iv0, iv1, lkS, entS, Ent.cs, tupL, evn]; refine hk _ ?_; clear hk k; try show Sat _ _ _ _ _)
    (repeat refine Sat.seq ?_)
    refine Sat.cond_b rfl (fun h2 => ?_) (fun h2 => ?_)
    · simp only [decide_eq_true_eq] at h2
      have hlt : i < ts.length - 1 := by omega
      have e2 : IntKind.i64.wrap ((i : Int) + 1) = ((i + 1 : Nat) : Int) := by rw [w64 (by omega)]; omega
      have hstep : chg a p.es q.es ts (i + 1) = cgStep (chg a p.es q.es ts i) (pvd a (ts.getD i 0) p.es) (pvd a (ts.getD i 0) q.es) (ts.getD i 0) (ts.getD (i + 1) 0) := rfl
      rw [← hl] at hstep
      have ht1 := intsA_getD ts i (by omega)
      have ht2 := intsA_getD ts (i + 1) (by omega)
      refine Sat.skip ?_
      simp only [thenK]
      (repeat refine Sat.seq ?_)
      refine Sat.block ?_
      (repeat refine Sat.seq ?_)
      (refine Sat.region_k fun k hk => ?_; simp -implicitDefEqProofs only [evr, id, seval, ent0, ent1, ent2, ent3, ent4, Nat.sub_zero, int_at, iv0, iv1, lkS, entS, Ent.cs, tupL, evn])
      rw [ht1]
      refine ⟨by omega, ?_⟩
      (refine hk _ ?_; clear hk k; try show Sat _ _ _ _ _)
      generalize hx1 : ts.getD i 0 = t1 at hstep ⊢
      generalize hx2 : ts.getD (i + 1) 0 = t2 at hstep ht2
      (repeat refine Sat.seq ?_)
      (refine Sat.region_k fun k hk => ?_; simp -implicitDefEqProofs only [evr, id, seval, ent0, ent1, ent2, ent3, ent4, Nat.sub_zero, int_at, iv0, iv1, lkS, entS, Ent.cs, tupL, evn])
      refine wcall_plain (lookC F p.ad p.cap p.es hp hnp a ha t1) (by simp -implicitDefEqProofs only [evr, id, seval, ent0, ent1, ent2, ent3, ent4, Nat.sub_zero, int_at, iv0, iv1, lkS, entS, Ent.cs, tupL, evn]; rfl) (by rintro _ rfl; exact lkS_ok _) ?_
      rintro r rfl
      simp -implicitDefEqProofs only [evr, id, seval, ent0, ent1, ent2, ent3, ent4, Nat.sub_zero, int_at, iv0, iv1, lkS, entS, Ent.cs, tupL, evn]
      intro b11
      have hpv : (optE (lkp a t1 p.es)).prov = pvd a t1 p.es := rfl
      rw [hpv]
      generalize pvd a t1 p.es = pv at hstep ⊢
      (refine hk _ ?_; clear hk k; try show Sat _ _ _ _ _)
      (repeat refine Sat.seq ?_)
      (refine Sat.region_k fun k hk => ?_; simp -implicitDefEqProofs only [evr, id, seval, ent0, ent1, ent2, ent3, ent4, Nat.sub_zero, int_at, iv0, iv1, lkS, entS, Ent.cs, tupL, evn])
      refine wcall_plain (lookC F q.ad q.cap q.es hq hnq a ha t1) (by simp -implicitDefEqProofs only [evr, id, seval, ent0, ent1, ent2, ent3, ent4, Nat.sub_zero, int_at, iv0, iv1, lkS, entS, Ent.cs, tupL, evn]; rfl) (by rintro _ rfl; exact lkS_ok _) ?_
      rintro r rfl
      simp -implicitDefEqProofs only [evr, id, seval, ent0, ent1, ent2, ent3, ent4, Nat.sub_zero, int_at, iv0, iv1, lkS, entS, Ent.cs, tupL, evn]
      intro b13
      have hqv : (optE (lkp a t1 q.es)).prov = pvd a t1 q.es := rfl
      rw [hqv]
      generalize pvd a t1 q.es = qv at hstep ⊢
      (refine hk _ ?_; clear hk k; try show Sat _ _ _ _ _)
      (repeat refine Sat.seq ?_)
      (refine Sat.region_k fun k hk => ?_; simp -implicitDefEqProofs only [evr, id, seval, ent0, ent1, ent2, ent3, ent4, Nat.sub_zero, int_at, iv0, iv1, lkS, entS, Ent.cs, tupL, evn]; refine hk _ ?_; clear hk k; try show Sat _ _ _ _ _)
      (repeat refine Sat.seq ?_)
      refine Sat.cond_b rfl (fun h4 => ?_) (fun h4 => ?_)
      · simp only [beq_iff_eq] at h4
        unfold cgStep at hstep
        rw [if_pos h4] at hstep
        refine Sat.exit ?_
        simp only [thenK, blockK, reduceIte]
        refine Sat.region_k fun k hk => ?_
        simp -implicitDefEqProofs only [evr, id, seval, ent0, ent1, ent2, ent3, ent4, Nat.sub_zero, int_at, iv0, iv1, lkS, entS, Ent.cs, tupL, evn]
        rw [e2]
        refine hk _ ?_
        simp only [thenK, blockK]
        refine ⟨(i + 1, a5, c5, l), ⟨by simp only; omega, by simp only; rw [hstep]⟩, by simp only; omega, ?_⟩
        simp -implicitDefEqProofs only [evr, id, seval, ent0, ent1, ent2, ent3, ent4, Nat.sub_zero, int_at, iv0, iv1, lkS, entS, Ent.cs, tupL, evl, evn]
      · simp only [beq_eq_false_iff_ne, ne_eq] at h4
        unfold cgStep at hstep
        rw [if_neg h4] at hstep
        refine Sat.skip ?_
        simp only [thenK]
        (repeat refine Sat.seq ?_)
        (refine Sat.region_k fun k hk => ?_; simp -implicitDefEqProofs only [evr, id, seval, ent0, ent1, ent2, ent3, ent4, Nat.sub_zero, int_at, iv0, iv1, lkS, entS, Ent.cs, tupL, evn]; refine hk _ ?_; clear hk k; try show Sat _ _ _ _ _)
        (repeat refine Sat.seq ?_)
        refine Sat.region_at ⟨95, [(72, .b (decide (endsAt l t1))), (15, .i .i64 l.length), (9, .i .i64 i), (10, .i .i64 t1), (35, .i .i64 i), (34, .i .i64 (ts.length - 1 : Nat)), (33, .sl a8 (ts.length - 1) c6 1 (intsA ts.toArray)), (8, .sl a6 ts.length c6 1 (intsA ts.toArray)), (7, .os 2 a5 l.length c5), (3, .op 0 b3 0), (4, .op 1 b4 0), (2, .i .u32 a)],
          [.box b3 25 [.sl p.ad p.es.length p.cap 5 (entRd p.es)], .box b4 25 [.sl q.ad q.es.length q.cap 5 (entRd q.es)], .row a5 53 l.length c5 2 (ivRd l)]⟩ (fun k hk => ?_) ?_
        · have e3 : 0 < l.length → IntKind.i64.wrap ((l.length : Int) - 1) = ((l.length - 1 : Nat) : Int) := fun h0 => by rw [w64 (by omega)]; omega
          rcases Nat.eq_zero_or_pos l.length with h0 | h0
          · simp -implicitDefEqProofs only [evr, id, seval, ent0, ent1, ent2, ent3, ent4, Nat.sub_zero, int_at, iv0, iv1, lkS, entS, Ent.cs, tupL, evn]
            repeat' (first
            | (with_reducible refine And.intro ?_ ?_)
            | (with_reducible intro hh)
            | omega
            | (with_reducible refine hk _ ?_
               first
               | (have e9 : decide (endsAt l t1) = false := by
                    clear hk
                    apply decide_eq_false
                    unfold endsAt
                    rintro ⟨g1, g2⟩
                    omega
                  simp only [e9]
                  simp -implicitDefEqProofs only [evr, id, seval, ent0, ent1, ent2, ent3, ent4, Nat.sub_zero, int_at, iv0, iv1, lkS, entS, Ent.cs, tupL, evl, evn]
                  done)))
          · have e4 := e3 h0
            simp -implicitDefEqProofs only [evr, id, seval, ent0, ent1, ent2, ent3, ent4, Nat.sub_zero, int_at, iv0, iv1, lkS, entS, Ent.cs, tupL, e4, Int.toNat_natCast, evn]
            repeat' (first
            | (with_reducible refine And.intro ?_ ?_)
            | (with_reducible intro hh)
            | omega
            | (with_reducible refine hk _ ?_
               first
               | (have e9 : decide (endsAt l t1) = ((l.getD (l.length - 1) default).high == t1) := by
                    clear hk
                    apply Bool.eq_iff_iff.2
                    rw [decide_eq_true_eq, beq_iff_eq]
                    unfold endsAt
                    constructor
                    · exact fun h => h.2
                    · exact fun h => ⟨by omega, h⟩
                  simp only [e9]
                  simp -implicitDefEqProofs only [evr, id, seval, ent0, ent1, ent2, ent3, ent4, Nat.sub_zero, int_at, iv0, iv1, lkS, entS, Ent.cs, tupL, evl, evn]
                  done)))
        refine Sat.cond_b rfl (fun h3 => ?_) (fun h3 => ?_)
        · simp only [decide_eq_true_eq] at h3
          have h0 := h3.1
          have e4 : IntKind.i64.wrap ((l.length : Int) - 1) = ((l.length - 1 : Nat) : Int) := by rw [w64 (by omega)]; omega
          rw [if_pos h3] at hstep
          (repeat refine Sat.seq ?_)
          refine Sat.region_k fun k hk => ?_
          simp -implicitDefEqProofs only [evr, id, seval, ent0, ent1, ent2, ent3, ent4, Nat.sub_zero, int_at, iv0, iv1, lkS, entS, Ent.cs, tupL, e4, e2, Int.toNat_natCast, ht2, evn]
          refine ⟨by omega, by omega, by omega, hk _ ?_⟩
          simp only [thenK]
          refine Sat.exit ?_
          simp only [thenK, blockK, reduceIte]
          refine Sat.region_k fun k hk => ?_
          simp -implicitDefEqProofs only [evr, id, seval, ent0, ent1, ent2, ent3, ent4, Nat.sub_zero, int_at, iv0, iv1, lkS, entS, Ent.cs, tupL, evn]
          rw [e2]
          refine hk _ ?_
          simp only [thenK, blockK]
          refine ⟨(i + 1, a5, c5, l.set (l.length - 1) ⟨(l.getD (l.length - 1) default).low, t2⟩), ⟨by simp only; omega, by simp only; rw [hstep]⟩, by simp only; omega, ?_⟩
          simp only [List.length_set]
          simp -implicitDefEqProofs only [evr, id, seval, ent0, ent1, ent2, ent3, ent4, Nat.sub_zero, int_at, iv0, iv1, lkS, entS, Ent.cs, tupL, evl, evn]
          exact iv_set h0 t2
        · simp only [decide_eq_false_iff_not] at h3
          rw [if_neg h3] at hstep
          refine Sat.skip ?_
          simp only [thenK]
          (repeat refine Sat.seq ?_)
          (refine Sat.region_k fun k hk => ?_; simp -implicitDefEqProofs only [evr, id, seval, ent0, ent1, ent2, ent3, ent4, Nat.sub_zero, int_at, iv0, iv1, lkS, entS, Ent.cs, tupL, evn])
          simp only [e2, Int.toNat_natCast, ht2]
          refine ⟨by omega, fun bl => ⟨⟨by unfold maxLen; omega, by omega⟩, fun a7 c7 => ?_⟩⟩
          refine hk _ ?_
          simp only [thenK, blockK]
          refine Sat.region_k fun k hk => ?_
          simp -implicitDefEqProofs only [evr, id, seval, ent0, ent1, ent2, ent3, ent4, Nat.sub_zero, int_at, iv0, iv1, lkS, entS, Ent.cs, tupL, evn]
          rw [e2]
          refine hk _ ?_
          simp only [thenK, blockK]
          refine ⟨(i + 1, a7, c7, l ++ [⟨t1, t2⟩]), ⟨by simp only; omega, by simp only; rw [hstep]⟩, by simp only; omega, ?_⟩
          have e7 : (l ++ [(⟨t1, t2⟩ : Ivl)]).length = l.length + 1 := by simp
          rw [e7]
          simp -implicitDefEqProofs only [evr, id, seval, ent0, ent1, ent2, ent3, ent4, Nat.sub_zero, int_at, iv0, iv1, lkS, entS, Ent.cs, tupL, evl, evn]
          exact iv_app l ⟨t1, t2⟩
    · simp only [decide_eq_false_iff_not] at h2
      obtain rfl : i = ts.length - 1 := by omega
      refine Sat.exit ?_
      simp only [thenK, blockK, reduceIte]
      (repeat refine Sat.seq ?_)
      (refine Sat.region_k fun k hk => ?_; simp -implicitDefEqProofs only [evr, id, seval, ent0, ent1, ent2, ent3, ent4, Nat.sub_zero, int_at, iv0, iv1, lkS, entS, Ent.cs, tupL, evn]; refine hk _ ?_; clear hk k; try show Sat _ _ _ _ _)
      refine Sat.ret ?_
      simp only [Tryz.results20, evr, id, seval, List.append_nil, Int.toNat_zero, Nat.sub_self, ent0, ent1, ent2, ent3, ent4, Nat.sub_zero, int_at, iv0, iv1, lkS, entS, Ent.cs, tupL]
      rw [hv, ← hl]
      exact .inr ⟨_, _, rfl⟩
end Go.Proofs.YtepkbbmjbbnhnaaGreatDoor

/- The reference of law 32: Changed, by the evaluator. -/
set_option linter.unusedSimpArgs false
set_option linter.unusedVariables false
namespace Go.Proofs.YtepkbbmjbbnhnaaGreatDoor
open Go.Sort Eng
theorem argL_agg (own : List Eng.Own) (ids : List Nat) (n : Nat) (l : List SV) : argL own ids (.agg n fun j => l.getD j default) = .agg n fun j => (l.map (argL1 own ids)).getD j default := by
  show SV.agg n (fun j => argL1 own ids (l.getD j default)) = _
  congr 1
  funext j
  simp only [List.getD, List.getElem?_map]
  cases l[j]? <;> rfl
set_option maxRecDepth 100000 in
theorem refChangedC (F : Frm) (p q : RgP) (hp : esOk p.es) (hnp : p.es.length ≤ 2000) (hq : esOk q.es) (hnq : q.es.length ≤ 2000) (a : Nat) (ha : a < 2 ^ 32) :
    Contract F Tryz.prog 21 [p.s, q.s, .i .u32 a] (fun r => ∃ a2 c, r = .sl a2 (chgL a p q).length c 2 (ivRd (chgL a p q))) := by
  refine Contract.same (post := fun r => (chgL a p q = [] ∧ ∃ rd, r = .sl none 0 0 0 rd) ∨ ∃ a2 c, r = .sl a2 (chgL a p q).length c 2 (ivRd (chgL a p q))) ?_ (by
    rintro r (⟨h1, rd, rfl⟩ | ⟨a2, c, h2⟩)
    · rw [h1]
      exact ⟨_, sim_nil 0 2 rd (ivRd []), none, 0, rfl⟩
    · exact ⟨r, sim_refl _, a2, c, h2⟩)
  refine contract_of Tryz.func21 rfl (by kernel_rfl) ?_
  simp only [Tryz.ntmps21, argEnv, RgP.s, regS]
  (repeat refine Sat.seq ?_)
  (refine Sat.region_k fun k hk => ?_; simp -implicitDefEqProofs only [evr, id, seval, ent0, ent1, ent2, ent3, ent4, Nat.sub_zero, int_at, iv0, iv1, lkS, entS, Ent.cs, tupL, intRowA, evn])
  intro b3 b4
  (refine hk _ ?_; clear hk k; try show Sat _ _ _ _ _)
  (repeat refine Sat.seq ?_)
  refine Sat.region_at ⟨102, [(22, .b (decide (¬ (RegOk p.es ∧ RegOk q.es)))), (3, .op 0 b3 0), (4, .op 1 b4 0), (2, .i .u32 a)], [.box b3 25 [.sl p.ad p.es.length p.cap 5 (entRd p.es)], .box b4 25 [.sl q.ad q.es.length q.cap 5 (entRd q.es)]]⟩ (fun k hk => ?_) ?_
  · simp -implicitDefEqProofs only [evr, id, seval, ent0, ent1, ent2, ent3, ent4, Nat.sub_zero, int_at, iv0, iv1, lkS, entS, Ent.cs, tupL, intRowA, evn]
    refine wcall_plain (refRegValidC F p.ad p.cap p.es hp) (by simp -implicitDefEqProofs only [evr, id, seval, ent0, ent1, ent2, ent3, ent4, Nat.sub_zero, int_at, iv0, iv1, lkS, entS, Ent.cs, tupL, intRowA, evn]; rfl) (by rintro _ rfl; exact ok_plain rfl) ?_
    rintro r rfl
    simp -implicitDefEqProofs only [evr, id, seval, ent0, ent1, ent2, ent3, ent4, Nat.sub_zero, int_at, iv0, iv1, lkS, entS, Ent.cs, tupL, intRowA, evn]
    refine ⟨fun h1 => ?_, fun h1 => ?_⟩
    · refine hk _ ?_
      have e9 : decide (¬ (RegOk p.es ∧ RegOk q.es)) = true := decide_eq_true (fun h9 => by simp [h9.1] at h1)
      simp only [e9]
      simp -implicitDefEqProofs only [evr, id, seval, ent0, ent1, ent2, ent3, ent4, Nat.sub_zero, int_at, iv0, iv1, lkS, entS, Ent.cs, tupL, intRowA, evl, evn]
      done
    · refine wcall_plain (refRegValidC F q.ad q.cap q.es hq) (by simp -implicitDefEqProofs only [evr, id, seval, ent0, ent1, ent2, ent3, ent4, Nat.sub_zero, int_at, iv0, iv1, lkS, entS, Ent.cs, tupL, intRowA, evn]; rfl) (by rintro _ rfl; exact ok_plain rfl) ?_
      rintro r rfl
      simp -implicitDefEqProofs only [evr, id, seval, ent0, ent1, ent2, ent3, ent4, Nat.sub_zero, int_at, iv0, iv1, lkS, entS, Ent.cs, tupL, intRowA, evn]
      refine hk _ ?_
      have e9 : decide (¬ (RegOk p.es ∧ RegOk q.es)) = !decide (RegOk q.es) := by
        simp only [Bool.not_eq_false', decide_eq_true_eq] at h1
        apply Bool.eq_iff_iff.2
        simp [h1]
      simp only [e9]
      simp -implicitDefEqProofs only [evr, id, seval, ent0, ent1, ent2, ent3, ent4, Nat.sub_zero, int_at, iv0, iv1, lkS, entS, Ent.cs, tupL, intRowA, evl, evn]
      done
  refine Sat.cond_b rfl (fun h1 => ?_) (fun h1 => ?_)
  · simp only [decide_eq_true_eq] at h1
    (repeat refine Sat.seq ?_)
    (refine Sat.region_k fun k hk => ?_; simp -implicitDefEqProofs only [evr, id, seval, ent0, ent1, ent2, ent3, ent4, Nat.sub_zero, int_at, iv0, iv1, lkS, entS, Ent.cs, tupL, intRowA, evn]; refine hk _ ?_; clear hk k; try show Sat _ _ _ _ _)
    refine Sat.ret ?_
    simp only [Tryz.results21, evr, id, seval, List.append_nil, Int.toNat_zero, Nat.sub_self, ent0, ent1, ent2, ent3, ent4, Nat.sub_zero, int_at, iv0, iv1, lkS, entS, Ent.cs, tupL, intRowA]
    refine .inl ⟨?_, _, rfl⟩
    unfold chgL
    rw [if_neg h1]
  · simp only [decide_eq_false_iff_not, Decidable.not_not] at h1
    have hv : chgL a p q = chg a p.es q.es (timesL a [p, q]) ((timesL a [p, q]).length - 1) := by unfold chgL; rw [if_pos h1]
    have hrs : rsOk [p, q] := fun r hr => by
      rcases List.mem_cons.1 hr with rfl | hr
      · exact ⟨hp, h1.1.1⟩
      · rw [List.mem_singleton.1 hr]; exact ⟨hq, h1.2.1⟩
    have htl := timesL_len a [p, q] hrs
    have htl1 := timesL_len a [p] (fun r hr => hrs r (by rw [List.mem_singleton.1 hr]; exact List.mem_cons_self))
    simp only [List.length_cons, List.length_nil] at htl htl1
    refine Sat.skip ?_
    simp only [thenK]
    (repeat refine Sat.seq ?_)
    (refine Sat.region_rows [⟨0, 24, 8, 1⟩, ⟨0, 25, 4, 0⟩, ⟨3, 26, 25165824, 2⟩, ⟨0, 27, 16, 1⟩, ⟨0, 28, 4, 0⟩, ⟨28, 29, 234881024, 2⟩, ⟨63, 8, 268435456, 0⟩] [1, 4, 0, 3] [(2, false), (5, false), (6, false)] [2] (by kernel_rfl) (by kernel_rfl) (fun _ _ h => h) fun k hk => ?_; simp only [List.map_cons, List.map_nil, List.getD_cons_zero, List.getD_cons_succ, btseq_cons, btseq_free, btseq_nil]; simp -implicitDefEqProofs only [evr, id, seval, ent0, ent1, ent2, ent3, ent4, Nat.sub_zero, int_at, iv0, iv1, lkS, entS, Ent.cs, tupL, intRowA, evn])
    refine wcall_new (refTimesC F _ p.ad p.cap p.es hp hnp a ha) rfl (by simp -implicitDefEqProofs only [evr, id, seval, ent0, ent1, ent2, ent3, ent4, Nat.sub_zero, int_at, iv0, iv1, lkS, entS, Ent.cs, tupL, intRowA, evn]; rfl) ?_
    rintro a6 ty len c6 sz rrd ⟨a6', c6', e9⟩
    simp only [intRowA, Own.row.injEq] at e9
    obtain ⟨rfl, rfl, rfl, rfl, rfl, rfl⟩ := e9
    rw [show (⟨p.ad, p.cap, p.es⟩ : RgP) = p from rfl]
    simp -implicitDefEqProofs only [evr, id, seval, ent0, ent1, ent2, ent3, ent4, Nat.sub_zero, int_at, iv0, iv1, lkS, entS, Ent.cs, tupL, intRowA, evn]
    refine wcall_multi [] [2] (refTimesL F a6 c6 (timesL a [p]) (by omega) q.ad q.cap q.es hq hnq a ha) rfl (by decide) (by simp -implicitDefEqProofs only [evr, id, seval, ent0, ent1, ent2, ent3, ent4, Nat.sub_zero, int_at, iv0, iv1, lkS, entS, Ent.cs, tupL, intRowA, evn]; rfl) (by rw [List.map_cons, List.map_cons, argL_agg]; simp -implicitDefEqProofs only [evr, id, seval, ent0, ent1, ent2, ent3, ent4, Nat.sub_zero, int_at, iv0, iv1, lkS, entS, Ent.cs, tupL, intRowA, argL, argL1, idx, lf, evn]; try rfl) ?_
    rintro r os1 ⟨o0, o1, a7, c7, zs, hs, hzl, rfl, rfl⟩
    have hz : zs = timesL a [p, q] := Srt.two hs
    have htp := timesL_pos a [p, q]
    rw [← hz] at hv htl htp
    simp -implicitDefEqProofs only [evr, id, seval, ent0, ent1, ent2, ent3, ent4, Nat.sub_zero, int_at, iv0, iv1, lkS, entS, Ent.cs, tupL, intRowA, setA, renO, renI, toC, idx, Option.map_none, Option.map_some, List.length_cons, List.length_nil, evn]
    (refine hk _ ?_; clear hk k; try show Sat _ _ _ _ _)
    clear hs hz
    (repeat refine Sat.seq ?_)
    (refine Sat.region_k fun k hk => ?_; simp -implicitDefEqProofs only [evr, id, seval, ent0, ent1, ent2, ent3, ent4, Nat.sub_zero, int_at, iv0, iv1, lkS, entS, Ent.cs, tupL, intRowA, evn]; refine hk _ ?_; clear hk k; try show Sat _ _ _ _ _)
    refine Sat.adopt 8 53 2 (ivRd []) rfl ?_
    (repeat refine Sat.seq ?_)
    (refine Sat.region_k fun k hk => ?_; simp -implicitDefEqProofs only [evr, id, seval, ent0, ent1, ent2, ent3, ent4, Nat.sub_zero, int_at, iv0, iv1, lkS, entS, Ent.cs, tupL, intRowA, evn]; refine hk _ ?_; clear hk k; try show Sat _ _ _ _ _)
    (repeat refine Sat.seq ?_)
    refine Sat.block ?_
    refine Sat.loop (ι := Nat × Option Addr × Nat × List Ivl) (fun x => ⟨102, [(9, .i .i64 x.1), (7, .os 4 a7 zs.length c7), (8, .os 5 x.2.1 x.2.2.2.length x.2.2.1), (3, .op 0 b3 0), (4, .op 1 b4 0), (2, .i .u32 a)],
      [.box b3 25 [.sl p.ad p.es.length p.cap 5 (entRd p.es)], .box b4 25 [.sl q.ad q.es.length q.cap 5 (entRd q.es)], .gone, .gone, .row a7 3 zs.length c7 1 (intsA zs.toArray), .row x.2.1 53 x.2.2.2.length x.2.2.1 2 (ivRd x.2.2.2)]⟩)
      (fun x => x.1 ≤ zs.length - 1 ∧ x.2.2.2 = chg a p.es q.es zs x.1) (fun x => zs.length - 1 - x.1) (0, none, 0, []) ⟨Nat.zero_le _, rfl⟩ (by simp -implicitDefEqProofs only [evr, id, seval, ent0, ent1, ent2, ent3, ent4, Nat.sub_zero, int_at, iv0, iv1, lkS, entS, Ent.cs, tupL, intRowA, evl, evn]; try rfl) ?_
    rintro ⟨i, a5, c5, l⟩ ⟨hi, hl⟩
    simp only at hi hl ⊢
    have hll : l.length ≤ i := hl ▸ chg_len a p.es q.es zs i
    have e2 : IntKind.i64.wrap ((i : Int) + 1) = ((i + 1 : Nat) : Int) := by rw [w64 (by omega)]; omega
    (repeat refine Sat.seq ?_)
    refine Sat.region_k fun k hk => ?_
    simp -implicitDefEqProofs only [evr, id, seval, ent0, ent1, ent2, ent3, ent4, Nat.sub_zero, int_at, iv0, iv1, lkS, entS, Ent.cs, tupL, intRowA, e2, evn]
    (refine hk _ ?_; clear hk k; try show Sat _ _ _ _ _)
    (repeat refine Sat.seq ?_)
    refine Sat.cond_b rfl (fun h2 => ?_) (fun h2 => ?_)
    · simp only [decide_eq_true_eq] at h2
      have hlt : i < zs.length - 1 := by omega
      have hstep : chg a p.es q.es zs (i + 1) = cgStep (chg a p.es q.es zs i) (pvd a (zs.getD i 0) p.es) (pvd a (zs.getD i 0) q.es) (zs.getD i 0) (zs.getD (i + 1) 0) := rfl
      rw [← hl] at hstep
      have ht1 := intsA_getD zs i (by omega)
      have ht2 := intsA_getD zs (i + 1) (by omega)
      refine Sat.skip ?_
      simp only [thenK]
      (repeat refine Sat.seq ?_)
      refine Sat.block ?_
      (repeat refine Sat.seq ?_)
      refine Sat.join2 (ι := Nat) (fun b9 => ⟨102, [(10, .op 6 b9 0), (9, .i .i64 i), (7, .os 4 a7 zs.length c7), (8, .os 5 a5 l.length c5), (3, .op 0 b3 0), (4, .op 1 b4 0), (2, .i .u32 a)], [.box b3 25 [.sl p.ad p.es.length p.cap 5 (entRd p.es)], .box b4 25 [.sl q.ad q.es.length q.cap 5 (entRd q.es)], .gone, .gone, .row a7 3 zs.length c7 1 (intsA zs.toArray), .row a5 53 l.length c5 2 (ivRd l), .box b9 31 (Ent.cs (optE (lkp a (zs.getD i 0) p.es)))]⟩) (fun _ => True) (fun hrest => ?_) ?_
      · (refine Sat.region_tree (.keep [1, 2, 3, 4, 0, 5] [10] (.alt 6 (.free 7 (.free 8 (.free 9 (.one 10 (.one 11 (.one 12 .done)))))) (.alt 10 (.one 6 (.one 7 (.free 8 (.free 9 (.one 11 (.one 12 .done)))))) .none))) (by kernel_rfl) (by kernel_rfl) (fun _ _ h => h) fun k hk => ?_; simp only [WOT, List.map_cons, List.map_nil, List.getD_cons_zero, List.getD_cons_succ]; simp -implicitDefEqProofs only [evr, id, seval, ent0, ent1, ent2, ent3, ent4, Nat.sub_zero, int_at, iv0, iv1, lkS, entS, Ent.cs, tupL, intRowA, WOT, evn])
        simp only [ht1]
        repeat' (first
        | (with_reducible refine And.intro ?_ ?_)
        | omega
        | (with_reducible intro b9)
        | (refine wcall_plain (refLookC F p.ad p.cap p.es hp (by omega) a ha (zs.getD i 0)) (by rfl) (by rintro _ rfl; exact lkS_ok _) ?_
           rintro r rfl
           simp -implicitDefEqProofs only [evr, id, seval, ent0, ent1, ent2, ent3, ent4, Nat.sub_zero, int_at, iv0, iv1, lkS, entS, Ent.cs, tupL, intRowA, evn])
        | (refine hk _ ?_
           simp only [thenK]
           refine (hrest b9 trivial).le ?_
           simp -implicitDefEqProofs only [evr, id, seval, ent0, ent1, ent2, ent3, ent4, Nat.sub_zero, int_at, iv0, iv1, lkS, entS, Ent.cs, tupL, intRowA, evl, evn]
           done))
      rintro b11 -
      simp only [Ent.cs]
      (repeat refine Sat.seq ?_)
      refine Sat.join2 (ι := Nat) (fun b9 => ⟨102, [(12, .op 7 b9 0), (10, .op 6 b11 0), (9, .i .i64 i), (7, .os 4 a7 zs.length c7), (8, .os 5 a5 l.length c5), (3, .op 0 b3 0), (4, .op 1 b4 0), (2, .i .u32 a)], [.box b3 25 [.sl p.ad p.es.length p.cap 5 (entRd p.es)], .box b4 25 [.sl q.ad q.es.length q.cap 5 (entRd q.es)], .gone, .gone, .row a7 3 zs.length c7 1 (intsA zs.toArray), .row a5 53 l.length c5 2 (ivRd l), .box b11 31 (Ent.cs (optE (lkp a (zs.getD i 0) p.es))), .box b9 31 (Ent.cs (optE (lkp a (zs.getD i 0) q.es)))]⟩) (fun _ => True) (fun hrest => ?_) ?_
      · (refine Sat.region_tree (.keep [1, 2, 3, 4, 0, 5] [10] (.alt 6 (.free 7 (.free 8 (.free 9 (.one 10 (.one 11 (.one 12 .done)))))) (.alt 10 (.one 6 (.one 7 (.free 8 (.free 9 (.one 11 (.one 12 .done)))))) .none))) (by kernel_rfl) (by kernel_rfl) (fun _ _ h => h) fun k hk => ?_; simp only [WOT, List.map_cons, List.map_nil, List.getD_cons_zero, List.getD_cons_succ]; simp -implicitDefEqProofs only [evr, id, seval, ent0, ent1, ent2, ent3, ent4, Nat.sub_zero, int_at, iv0, iv1, lkS, entS, Ent.cs, tupL, intRowA, WOT, evn])
        simp only [ht1]
        repeat' (first
        | (with_reducible refine And.intro ?_ ?_)
        | omega
        | (with_reducible intro b9)
        | (refine wcall_plain (refLookC F q.ad q.cap q.es hq (by omega) a ha (zs.getD i 0)) (by rfl) (by rintro _ rfl; exact lkS_ok _) ?_
           rintro r rfl
           simp -implicitDefEqProofs only [evr, id, seval, ent0, ent1, ent2, ent3, ent4, Nat.sub_zero, int_at, iv0, iv1, lkS, entS, Ent.cs, tupL, intRowA, evn])
        | (refine hk _ ?_
           simp only [thenK]
           refine (hrest b9 trivial).le ?_
           simp -implicitDefEqProofs only [evr, id, seval, ent0, ent1, ent2, ent3, ent4, Nat.sub_zero, int_at, iv0, iv1, lkS, entS, Ent.cs, tupL, intRowA, evl, evn]
           done))
      rintro b13 -
      simp only [Ent.cs]
      (repeat refine Sat.seq ?_)
      have hpv : (optE (lkp a (zs.getD i 0) p.es)).prov = pvd a (zs.getD i 0) p.es := rfl
      have hqv : (optE (lkp a (zs.getD i 0) q.es)).prov = pvd a (zs.getD i 0) q.es := rfl
      rw [hpv, hqv]
      generalize hx1 : zs.getD i 0 = t1 at hstep ht1 ⊢
      generalize hx2 : zs.getD (i + 1) 0 = t2 at hstep ht2
      generalize pvd a t1 p.es = pv at hstep ⊢
      generalize pvd a t1 q.es = qv at hstep ⊢
      (refine Sat.region_k fun k hk => ?_; simp -implicitDefEqProofs only [evr, id, seval, ent0, ent1, ent2, ent3, ent4, Nat.sub_zero, int_at, iv0, iv1, lkS, entS, Ent.cs, tupL, intRowA, evn]; refine hk _ ?_; clear hk k; try show Sat _ _ _ _ _)
      (repeat refine Sat.seq ?_)
      refine Sat.cond_b rfl (fun h4 => ?_) (fun h4 => ?_)
      · simp only [beq_iff_eq] at h4
        unfold cgStep at hstep
        rw [if_pos h4] at hstep
        refine Sat.exit ?_
        simp only [thenK, blockK, reduceIte]
        refine Sat.region_k fun k hk => ?_
        simp -implicitDefEqProofs only [evr, id, seval, ent0, ent1, ent2, ent3, ent4, Nat.sub_zero, int_at, iv0, iv1, lkS, entS, Ent.cs, tupL, intRowA, e2, evn]
        refine hk _ ?_
        simp only [thenK, blockK]
        refine ⟨(i + 1, a5, c5, l), ⟨by simp only; omega, by simp only; rw [hstep]⟩, by simp only; omega, ?_⟩
        simp -implicitDefEqProofs only [evr, id, seval, ent0, ent1, ent2, ent3, ent4, Nat.sub_zero, int_at, iv0, iv1, lkS, entS, Ent.cs, tupL, intRowA, evl, evn]
      · simp only [beq_eq_false_iff_ne, ne_eq] at h4
        unfold cgStep at hstep
        rw [if_neg h4] at hstep
        refine Sat.skip ?_
        simp only [thenK]
        (repeat refine Sat.seq ?_)
        (refine Sat.region_k fun k hk => ?_; simp -implicitDefEqProofs only [evr, id, seval, ent0, ent1, ent2, ent3, ent4, Nat.sub_zero, int_at, iv0, iv1, lkS, entS, Ent.cs, tupL, intRowA, evn]; refine hk _ ?_; clear hk k; try show Sat _ _ _ _ _)
        (repeat refine Sat.seq ?_)
        refine Sat.region_qat (by kernel_rfl) (by kernel_rfl) ⟨102, [(77, .b (decide (endsAt l t1))), (14, .i .i64 l.length), (9, .i .i64 i), (7, .os 4 a7 zs.length c7), (8, .os 5 a5 l.length c5), (3, .op 0 b3 0), (4, .op 1 b4 0), (2, .i .u32 a)],
          [.box b3 25 [.sl p.ad p.es.length p.cap 5 (entRd p.es)], .box b4 25 [.sl q.ad q.es.length q.cap 5 (entRd q.es)], .gone, .gone, .row a7 3 zs.length c7 1 (intsA zs.toArray), .row a5 53 l.length c5 2 (ivRd l)]⟩ (fun k hk => ?_) ?_
        · rcases Nat.eq_zero_or_pos l.length with h0 | h0
          · have d1 : decide (0 < (l.length : Int)) = false := decide_eq_false (by omega)
            simp -implicitDefEqProofs only [evr, id, seval, ent0, ent1, ent2, ent3, ent4, Nat.sub_zero, int_at, iv0, iv1, lkS, entS, Ent.cs, tupL, intRowA, d1, evn]
            refine hk _ ?_
            have e9 : decide (endsAt l t1) = false := by
              apply decide_eq_false
              unfold endsAt
              rintro ⟨g1, g2⟩
              omega
            simp only [e9]
            simp -implicitDefEqProofs only [evr, id, seval, ent0, ent1, ent2, ent3, ent4, Nat.sub_zero, int_at, iv0, iv1, lkS, entS, Ent.cs, tupL, intRowA, evl, evn]
            done
          · have d1 : decide (0 < (l.length : Int)) = true := decide_eq_true (by omega)
            have e4 : IntKind.i64.wrap ((l.length : Int) - 1) = ((l.length - 1 : Nat) : Int) := by rw [w64 (by omega)]; omega
            simp -implicitDefEqProofs only [evr, id, seval, ent0, ent1, ent2, ent3, ent4, Nat.sub_zero, int_at, iv0, iv1, lkS, entS, Ent.cs, tupL, intRowA, d1, e4, Int.toNat_natCast, ht1, evn]
            repeat' (first
            | (with_reducible refine And.intro ?_ ?_)
            | omega
            | (with_reducible refine hk _ ?_
               have e9 : decide (endsAt l t1) = ((l.getD (l.length - 1) default).high == t1) := by
                    clear hk
                    apply Bool.eq_iff_iff.2
                    rw [decide_eq_true_eq, beq_iff_eq]
                    unfold endsAt
                    constructor
                    · exact fun h => h.2
                    · exact fun h => ⟨by omega, h⟩
               simp only [e9]
               simp -implicitDefEqProofs only [evr, id, seval, ent0, ent1, ent2, ent3, ent4, Nat.sub_zero, int_at, iv0, iv1, lkS, entS, Ent.cs, tupL, intRowA, evl, evn]
               done))
        simp only [thenK]
        refine Sat.cond_b rfl (fun h3 => ?_) (fun h3 => ?_)
        · simp only [decide_eq_true_eq] at h3
          have h0 := h3.1
          have e4 : IntKind.i64.wrap ((l.length : Int) - 1) = ((l.length - 1 : Nat) : Int) := by rw [w64 (by omega)]; omega
          rw [if_pos h3] at hstep
          (repeat refine Sat.seq ?_)
          refine Sat.region_k fun k hk => ?_
          simp -implicitDefEqProofs only [evr, id, seval, ent0, ent1, ent2, ent3, ent4, Nat.sub_zero, int_at, iv0, iv1, lkS, entS, Ent.cs, tupL, intRowA, e4, e2, Int.toNat_natCast, ht2, evn]
          refine ⟨by omega, by omega, by omega, by omega, hk _ ?_⟩
          simp only [thenK]
          refine Sat.exit ?_
          simp only [thenK, blockK, reduceIte]
          refine Sat.region_k fun k hk => ?_
          simp -implicitDefEqProofs only [evr, id, seval, ent0, ent1, ent2, ent3, ent4, Nat.sub_zero, int_at, iv0, iv1, lkS, entS, Ent.cs, tupL, intRowA, e2, evn]
          refine hk _ ?_
          simp only [thenK, blockK]
          refine ⟨(i + 1, a5, c5, l.set (l.length - 1) ⟨(l.getD (l.length - 1) default).low, t2⟩), ⟨by simp only; omega, by simp only; rw [hstep]⟩, by simp only; omega, ?_⟩
          simp only [List.length_set]
          simp -implicitDefEqProofs only [evr, id, seval, ent0, ent1, ent2, ent3, ent4, Nat.sub_zero, int_at, iv0, iv1, lkS, entS, Ent.cs, tupL, intRowA, evl, evn]
          exact iv_set h0 t2
        · simp only [decide_eq_false_iff_not] at h3
          rw [if_neg h3] at hstep
          refine Sat.skip ?_
          simp only [thenK]
          (repeat refine Sat.seq ?_)
          (refine Sat.region_rows [⟨0, 89, 256, 0⟩, ⟨0, 90, 128, 0⟩, ⟨0, 91, 512, 0⟩, ⟨6, 92, 1856910058928070412348686336, 0⟩, ⟨8, 93, 2475880078570760549798248448, 1⟩, ⟨0, 94, 128, 0⟩, ⟨0, 95, 512, 0⟩, ⟨64, 96, 19807040628566084398385987584, 0⟩, ⟨160, 97, 49517601571415210995964968960, 0⟩, ⟨256, 98, 79228162514264337593543950336, 1⟩, ⟨528, 99, 163408085185670196286684397568, 0⟩, ⟨1024, 100, 316912650057057350374175801344, 2⟩, ⟨2049, 101, 634134785123936045817076383744, 2⟩, ⟨8191, 9, 1267650600228229401496703205376, 0⟩] [0, 1, 2, 3, 5, 6, 7, 8, 4, 9, 10] [(11, false), (12, false), (13, false)] [] (by kernel_rfl) (by kernel_rfl) (fun _ _ h => h) fun k hk => ?_; simp only [List.map_cons, List.map_nil, List.getD_cons_zero, List.getD_cons_succ, btseq_cons, btseq_free, btseq_nil]; simp -implicitDefEqProofs only [evr, id, seval, ent0, ent1, ent2, ent3, ent4, Nat.sub_zero, int_at, iv0, iv1, lkS, entS, Ent.cs, tupL, intRowA, evn])
          simp only [e2, Int.toNat_natCast, ht1, ht2]
          refine ⟨by omega, by omega, by omega, by omega, fun bl => ⟨⟨by unfold maxLen; omega, by omega⟩, fun a9 c9 => ?_⟩⟩
          refine hk _ ?_
          simp only [thenK, blockK]
          refine Sat.region_k fun k hk => ?_
          simp -implicitDefEqProofs only [evr, id, seval, ent0, ent1, ent2, ent3, ent4, Nat.sub_zero, int_at, iv0, iv1, lkS, entS, Ent.cs, tupL, intRowA, e2, evn]
          refine hk _ ?_
          simp only [thenK, blockK]
          refine ⟨(i + 1, a9, c9, l ++ [⟨t1, t2⟩]), ⟨by simp only; omega, by simp only; rw [hstep]⟩, by simp only; omega, ?_⟩
          have e7 : (l ++ [(⟨t1, t2⟩ : Ivl)]).length = l.length + 1 := by simp
          rw [e7]
          simp -implicitDefEqProofs only [evr, id, seval, ent0, ent1, ent2, ent3, ent4, Nat.sub_zero, int_at, iv0, iv1, lkS, entS, Ent.cs, tupL, intRowA, evl, evn]
          exact iv_app l ⟨t1, t2⟩
    · simp only [decide_eq_false_iff_not] at h2
      obtain rfl : i = zs.length - 1 := by omega
      refine Sat.exit ?_
      simp only [thenK, blockK, reduceIte]
      (repeat refine Sat.seq ?_)
      (refine Sat.region_k fun k hk => ?_; simp -implicitDefEqProofs only [evr, id, seval, ent0, ent1, ent2, ent3, ent4, Nat.sub_zero, int_at, iv0, iv1, lkS, entS, Ent.cs, tupL, intRowA, evn]; refine hk _ ?_; clear hk k; try show Sat _ _ _ _ _)
      refine Sat.ret ?_
      simp only [Tryz.results21, evr, id, seval, List.append_nil, Int.toNat_zero, Nat.sub_self, ent0, ent1, ent2, ent3, ent4, Nat.sub_zero, int_at, iv0, iv1, lkS, entS, Ent.cs, tupL, intRowA]
      rw [hv, ← hl]
      exact .inr ⟨_, _, rfl⟩
end Go.Proofs.YtepkbbmjbbnhnaaGreatDoor

/- registry.Remove, by the evaluator. -/
set_option linter.unusedSimpArgs false
set_option linter.unusedVariables false
namespace Go.Proofs.YtepkbbmjbbnhnaaGreatDoor
open Go.Sort Eng
theorem pfx_q (es : List Ent) (i : Nat) (c d : Int) : aggEq Tryz.prog 29 2 (fun j => entRd es i j) 2 (fun j => [SV.i .u32 c, SV.i .i64 d].getD j default) = some ([((es.getD i default).addr : Int) == c, (es.getD i default).len == d].all id) := by kernel_rfl
def pfQ (x : Ent) (q : Prf) : Bool := (x.addr : Int) == q.addr && x.len == q.len
theorem pfQ_iff (x : Ent) (q : Prf) : pfQ x q = true ↔ x.pr = q := by
  obtain ⟨a, b⟩ := q
  unfold pfQ Ent.pr
  simp only [Bool.and_eq_true, beq_iff_eq, Prf.mk.injEq]
  omega
theorem pfQ_eq (x : Ent) (q : Prf) : ((x.addr : Int) == q.addr && x.len == q.len) = pfQ x q := rfl
def noAt (es : List Ent) (q : Prf) (t : Int) (i : Nat) : Prop := ¬ (i < es.length ∧ (es.getD i default).pr = q ∧ (es.getD i default).from_ = t)
instance (es : List Ent) (q : Prf) (t : Int) (i : Nat) : Decidable (noAt es q t i) := by unfold noAt; infer_instance
set_option maxRecDepth 100000 in
theorem removeC (F : Frm) (ad : Option Addr) (cap : Nat) (es : List Ent) (h : esOk es) (hn : es.length ≤ 1000000) (q : Prf) (t : Int) :
    Contract F Tryz.prog 29 [regS ad cap es, prS q, .i .i64 t] (fun r => ∃ a c, r = tupL [regS a c (remV es q t).1, .i .i64 (remV es q t).2]) := by
  have fin : ∀ (k : Int) (rd : Nat → Nat → SV), remV es q t = ([], k) → ∀ r, r = tupL [.agg 1 fun j => [SV.sl none 0 0 0 rd].getD j default, .i .i64 k] → ∃ r', sim r r' ∧ ∃ a c, r' = tupL [regS a c (remV es q t).1, .i .i64 (remV es q t).2] := by
    rintro k rd h1 _ rfl
    refine ⟨_, sim_tup2 (sim_agg1 (f := fun j => [SV.sl none 0 0 0 rd].getD j default) (g := fun j => [SV.sl none 0 0 5 (entRd [])].getD j default) (by show sim (SV.sl none 0 0 0 rd) (SV.sl none 0 0 5 (entRd [])); exact sim_nil 0 5 rd (entRd []))) (sim_refl _), none, 0, ?_⟩
    rw [h1]
    rfl
  refine Contract.same (post := fun r => (∃ k rd, remV es q t = ([], k) ∧ r = tupL [.agg 1 fun j => [SV.sl none 0 0 0 rd].getD j default, .i .i64 k]) ∨ ∃ a c, r = tupL [regS a c (remV es q t).1, .i .i64 (remV es q t).2]) ?_ (by
    rintro r (⟨k, rd, h1, h2⟩ | ⟨a, c, h2⟩)
    · exact fin k rd h1 r h2
    · exact ⟨r, sim_refl _, a, c, h2⟩)
  refine contract_of Tryz.func29 rfl (by kernel_rfl) ?_
  simp only [Tryz.ntmps29, argEnv, regS, prS, prC]
  (repeat refine Sat.seq ?_)
  (refine Sat.region_k fun k hk => ?_; simp -implicitDefEqProofs only [evr, id, seval, ent0, ent1, ent2, ent3, ent4, Nat.sub_zero, pfx_q, Option.map_none, evn])
  intro b3 b4 b6
  (refine hk _ ?_; clear hk k; try show Sat _ _ _ _ _)
  (repeat refine Sat.seq ?_)
  (refine Sat.region_k fun k hk => ?_; simp -implicitDefEqProofs only [evr, id, seval, ent0, ent1, ent2, ent3, ent4, Nat.sub_zero, pfx_q, Option.map_none, evn])
  refine wcall_plain (regValidC F ad cap es h) (by simp -implicitDefEqProofs only [evr, id, seval, ent0, ent1, ent2, ent3, ent4, Nat.sub_zero, pfx_q, Option.map_none, evn]; rfl) (by rintro _ rfl; exact ok_plain rfl) ?_
  rintro r rfl
  simp -implicitDefEqProofs only [evr, id, seval, ent0, ent1, ent2, ent3, ent4, Nat.sub_zero, pfx_q, Option.map_none, evn]
  (refine hk _ ?_; clear hk k; try show Sat _ _ _ _ _)
  (repeat refine Sat.seq ?_)
  refine Sat.cond_b rfl (fun h1 => ?_) (fun h1 => ?_)
  · simp only [Bool.not_eq_true', decide_eq_false_iff_not] at h1
    (repeat refine Sat.seq ?_)
    (refine Sat.region_k fun k hk => ?_; simp -implicitDefEqProofs only [evr, id, seval, ent0, ent1, ent2, ent3, ent4, Nat.sub_zero, pfx_q, Option.map_none, evn]; refine hk _ ?_; clear hk k; try show Sat _ _ _ _ _)
    refine Sat.ret ?_
    simp only [Tryz.results29, evr, id, seval, List.append_nil, Int.toNat_zero, Nat.sub_self, ent0, ent1, ent2, ent3, ent4, Nat.sub_zero, pfx_q, Option.map_none]
    refine .inl ⟨1, _, ?_, rfl⟩
    unfold remV
    rw [if_pos h1]
  · simp only [Bool.not_eq_false', decide_eq_true_eq] at h1
    refine Sat.skip ?_
    simp only [thenK]
    (repeat refine Sat.seq ?_)
    (refine Sat.region_k fun k hk => ?_; simp -implicitDefEqProofs only [evr, id, seval, ent0, ent1, ent2, ent3, ent4, Nat.sub_zero, pfx_q, Option.map_none, evn])
    refine wcall_plain (placeC F ad cap es hn q t) (by simp -implicitDefEqProofs only [evr, id, seval, ent0, ent1, ent2, ent3, ent4, Nat.sub_zero, pfx_q, Option.map_none, evn]; rfl) (by rintro _ ⟨j, _, _, _, rfl⟩; exact ok_plain rfl) ?_
    rintro _ ⟨i, hi, h5, h6, rfl⟩
    have hpl := place_of h1 hi h5 h6
    simp -implicitDefEqProofs only [evr, id, seval, ent0, ent1, ent2, ent3, ent4, Nat.sub_zero, pfx_q, Option.map_none, evn]
    (refine hk _ ?_; clear hk k; try show Sat _ _ _ _ _)
    (repeat refine Sat.seq ?_)
    refine Sat.region_qat (by kernel_rfl) (by kernel_rfl) ⟨51, [(41, .b (decide (noAt es q t i))), (8, .i .i64 i), (3, .op 0 b3 0), (6, .op 2 b6 0), (7, .i .i64 0)], [.box b3 25 [.sl ad es.length cap 5 (entRd es)], .gone, .box b6 25 [.sl none 0 0 0 fun _ _ => .v undef]]⟩ (fun k hk => ?_) ?_
    · simp -implicitDefEqProofs only [evr, id, seval, ent0, ent1, ent2, ent3, ent4, Nat.sub_zero, pfx_q, Option.map_none, pfQ_eq, evn]
      repeat' (first
        | (with_reducible refine And.intro ?_ ?_)
        | (with_reducible intro hh)
        | (omega)
        | (clear hk fin; simp only [beq_eq_false_iff_ne, ne_eq] at *; omega)
        | (with_reducible refine hk _ ?_
           first
           | (have e9 : decide (noAt es q t i) = true := by
                clear hk fin h5 h6 h
                apply decide_eq_true
                unfold noAt
                rw [← pfQ_iff]
                rintro ⟨g1, g2, g3⟩
                first
                | omega
                | (simp_all; done)
                | (simp_all; omega)
              simp only [e9]
              simp -implicitDefEqProofs only [evr, id, seval, ent0, ent1, ent2, ent3, ent4, Nat.sub_zero, pfx_q, Option.map_none, evl, evn]
              done)
           | (have e9 : decide (noAt es q t i) = ((es.getD i default).from_ != t) := by
                clear hk fin h5 h6 h
                apply Bool.eq_iff_iff.2
                rw [decide_eq_true_eq]
                unfold noAt
                rw [← pfQ_iff]
                have hlt : i < es.length := by
                  (try simp only [beq_iff_eq, beq_eq_false_iff_ne] at *)
                  omega
                simp_all
                done
              simp only [e9]
              simp -implicitDefEqProofs only [evr, id, seval, ent0, ent1, ent2, ent3, ent4, Nat.sub_zero, pfx_q, Option.map_none, evl, evn]
              done)))
    simp only [thenK]
    refine Sat.cond_b rfl (fun h7 => ?_) (fun h7 => ?_)
    · simp only [decide_eq_true_eq] at h7
      (repeat refine Sat.seq ?_)
      (refine Sat.region_k fun k hk => ?_; simp -implicitDefEqProofs only [evr, id, seval, ent0, ent1, ent2, ent3, ent4, Nat.sub_zero, pfx_q, Option.map_none, evn]; refine hk _ ?_; clear hk k; try show Sat _ _ _ _ _)
      refine Sat.ret ?_
      simp only [Tryz.results29, evr, id, seval, List.append_nil, Int.toNat_zero, Nat.sub_self, ent0, ent1, ent2, ent3, ent4, Nat.sub_zero, pfx_q, Option.map_none]
      refine .inl ⟨8, _, ?_, rfl⟩
      unfold remV
      rw [if_neg (fun h9 => h9 h1), ← hpl.eq, if_neg h7]
    · simp only [decide_eq_false_iff_not] at h7
      have h8 : i < es.length ∧ (es.getD i default).pr = q ∧ (es.getD i default).from_ = t := Decidable.not_not.1 h7
      have hv : remV es q t = (delE es i, 0) := by
        unfold remV
        rw [if_neg (fun h9 => h9 h1), ← hpl.eq, if_pos h8]
      have e1 : IntKind.i64.wrap ((i : Int) + 1) = ((i + 1 : Nat) : Int) := by rw [w64 (by omega)]; omega
      have hlen := delE_len h8.1
      refine Sat.skip ?_
      simp only [thenK]
      (repeat refine Sat.seq ?_)
      refine Sat.region_k fun k hk => ?_
      simp -implicitDefEqProofs only [evr, id, seval, ent0, ent1, ent2, ent3, ent4, Nat.sub_zero, pfx_q, Option.map_none, evn]
      refine wcall_new (cloneC F ad cap es (by omega)) rfl (by simp -implicitDefEqProofs only [evr, id, seval, ent0, ent1, ent2, ent3, ent4, Nat.sub_zero, pfx_q, Option.map_none, evn]) ?_
      rintro ra ty len rc sz rrd ⟨ra', rc', e9⟩
      simp only [entRow, Own.row.injEq] at e9
      obtain ⟨rfl, rfl, rfl, rfl, rfl, rfl⟩ := e9
      simp -implicitDefEqProofs only [evr, id, seval, ent0, ent1, ent2, ent3, ent4, Nat.sub_zero, pfx_q, Option.map_none, e1, evn]
      refine wcall_multi [] [3] (deleteC F ra rc es i h8.1 (by omega)) rfl (by decide) (by simp -implicitDefEqProofs only [evr, id, seval, ent0, ent1, ent2, ent3, ent4, Nat.sub_zero, pfx_q, Option.map_none, evn]; rfl) (by simp -implicitDefEqProofs only [evr, id, seval, ent0, ent1, ent2, ent3, ent4, Nat.sub_zero, pfx_q, Option.map_none, argL, argL1, idx, lf, evn]) ?_
      rintro r os1 ⟨a, c, rfl, rfl⟩
      simp -implicitDefEqProofs only [evr, id, seval, ent0, ent1, ent2, ent3, ent4, Nat.sub_zero, pfx_q, Option.map_none, setA, renO, renI, toC, idx, evn]
      refine hk _ ?_
      simp only [thenK]
      refine Sat.ret ?_
      simp only [Tryz.results29, evr, id, seval, List.append_nil, Int.toNat_zero, Nat.sub_self, ent0, ent1, ent2, ent3, ent4, Nat.sub_zero, pfx_q, Option.map_none]
      rw [hv, ← hlen]
      exact .inr ⟨_, _, rfl⟩
end Go.Proofs.YtepkbbmjbbnhnaaGreatDoor

/- The reference of law 32: Remove, by the evaluator. -/
set_option linter.unusedSimpArgs false
set_option linter.unusedVariables false
namespace Go.Proofs.YtepkbbmjbbnhnaaGreatDoor
open Go.Sort Eng
set_option maxRecDepth 100000 in
theorem refRemoveC (F : Frm) (ad : Option Addr) (cap : Nat) (es : List Ent) (h : esOk es) (hn : es.length ≤ 1000000) (q : Prf) (t : Int) :
    Contract F Tryz.prog 30 [regS ad cap es, prS q, .i .i64 t] (fun r => ∃ a c, r = tupL [regS a c (remV es q t).1, .i .i64 (remV es q t).2]) := by
  have fin : ∀ (k : Int) (rd : Nat → Nat → SV), remV es q t = ([], k) → ∀ r, r = tupL [.agg 1 fun j => [SV.sl none 0 0 0 rd].getD j default, .i .i64 k] → ∃ r', sim r r' ∧ ∃ a c, r' = tupL [regS a c (remV es q t).1, .i .i64 (remV es q t).2] := by
    rintro k rd h1 _ rfl
    refine ⟨_, sim_tup2 (sim_agg1 (f := fun j => [SV.sl none 0 0 0 rd].getD j default) (g := fun j => [SV.sl none 0 0 5 (entRd [])].getD j default) (by show sim (SV.sl none 0 0 0 rd) (SV.sl none 0 0 5 (entRd [])); exact sim_nil 0 5 rd (entRd []))) (sim_refl _), none, 0, ?_⟩
    rw [h1]
    rfl
  refine Contract.same (post := fun r => (∃ k rd, remV es q t = ([], k) ∧ r = tupL [.agg 1 fun j => [SV.sl none 0 0 0 rd].getD j default, .i .i64 k]) ∨ ∃ i a c rd, remV es q t = (delE es i, 0) ∧ i < es.length ∧ rdEq (es.length - 1) 5 rd (entRd (delE es i)) ∧ r = tupL [.agg 1 fun j => [SV.sl a (es.length - 1) c 5 rd].getD j default, .i .i64 0]) ?_ (by
    rintro r (⟨k, rd, h1, h2⟩ | ⟨i, a, c, rd, h1, h2, h3, rfl⟩)
    · exact fin k rd h1 r h2
    · refine ⟨_, sim_tup2 (sim_agg1 (f := fun j => [SV.sl a (es.length - 1) c 5 rd].getD j default) (g := fun j => [SV.sl a (es.length - 1) c 5 (entRd (delE es i))].getD j default) (by show sim (SV.sl a (es.length - 1) c 5 rd) (SV.sl a (es.length - 1) c 5 (entRd (delE es i))); exact sim_sl fun p j hi hj => h3 p j hi hj)) (sim_refl _), a, c, ?_⟩
      rw [h1]
      show _ = tupL [regS a c (delE es i), .i .i64 0]
      unfold regS
      rw [delE_len h2])
  refine contract_of Tryz.func30 rfl (by kernel_rfl) ?_
  simp only [Tryz.ntmps30, argEnv, regS, prS, prC]
  (repeat refine Sat.seq ?_)
  (refine Sat.region_k fun k hk => ?_; simp -implicitDefEqProofs only [evr, id, seval, ent0, ent1, ent2, ent3, ent4, Nat.sub_zero, pfx_q, Option.map_none, evn])
  intro b3 b4 b6
  (refine hk _ ?_; clear hk k; try show Sat _ _ _ _ _)
  (repeat refine Sat.seq ?_)
  (refine Sat.region_k fun k hk => ?_; simp -implicitDefEqProofs only [evr, id, seval, ent0, ent1, ent2, ent3, ent4, Nat.sub_zero, pfx_q, Option.map_none, evn])
  refine wcall_plain (refRegValidC F ad cap es h) (by simp -implicitDefEqProofs only [evr, id, seval, ent0, ent1, ent2, ent3, ent4, Nat.sub_zero, pfx_q, Option.map_none, evn]; rfl) (by rintro _ rfl; exact ok_plain rfl) ?_
  rintro r rfl
  simp -implicitDefEqProofs only [evr, id, seval, ent0, ent1, ent2, ent3, ent4, Nat.sub_zero, pfx_q, Option.map_none, evn]
  (refine hk _ ?_; clear hk k; try show Sat _ _ _ _ _)
  refine Sat.cond_b rfl (fun h1 => ?_) (fun h1 => ?_)
  · simp only [Bool.not_eq_true', decide_eq_false_iff_not] at h1
    (repeat refine Sat.seq ?_)
    (refine Sat.region_k fun k hk => ?_; simp -implicitDefEqProofs only [evr, id, seval, ent0, ent1, ent2, ent3, ent4, Nat.sub_zero, pfx_q, Option.map_none, evn]; refine hk _ ?_; clear hk k; try show Sat _ _ _ _ _)
    refine Sat.ret ?_
    simp only [Tryz.results30, evr, id, seval, List.append_nil, Int.toNat_zero, Nat.sub_self, ent0, ent1, ent2, ent3, ent4, Nat.sub_zero, pfx_q, Option.map_none]
    refine .inl ⟨1, _, ?_, rfl⟩
    unfold remV
    rw [if_pos h1]
  · simp only [Bool.not_eq_false', decide_eq_true_eq] at h1
    refine Sat.skip ?_
    simp only [thenK]
    (repeat refine Sat.seq ?_)
    (refine Sat.region_k fun k hk => ?_; simp -implicitDefEqProofs only [evr, id, seval, ent0, ent1, ent2, ent3, ent4, Nat.sub_zero, pfx_q, Option.map_none, evn]; refine hk _ ?_; clear hk k; try show Sat _ _ _ _ _)
    (repeat refine Sat.seq ?_)
    refine Sat.block ?_
    refine Sat.loop (ι := Nat) (fun i => ⟨51, [(8, .i .i64 i), (2, .i .i64 t), (3, .op 0 b3 0), (4, .op 1 b4 0), (6, .op 2 b6 0), (7, .i .i64 0)], [.box b3 25 [.sl ad es.length cap 5 (entRd es)], .box b4 29 [.i .u32 q.addr, .i .i64 q.len], .box b6 25 [.sl none 0 0 0 fun _ _ => .v undef]]⟩)
      (fun i => i ≤ es.length ∧ ∀ j, j < i → ¬ atKey es q t j) (fun i => es.length - i) 0 ⟨Nat.zero_le _, fun j hj => absurd hj (Nat.not_lt_zero _)⟩ (by simp -implicitDefEqProofs only [evr, id, seval, ent0, ent1, ent2, ent3, ent4, Nat.sub_zero, pfx_q, Option.map_none, evl, evn]; done) ?_
    rintro i ⟨hi, hno⟩
    (repeat refine Sat.seq ?_)
    (refine Sat.region_k fun k hk => ?_; simp -implicitDefEqProofs only [evr, id, seval, ent0, ent1, ent2, ent3, ent4, Nat.sub_zero, pfx_q, Option.map_none, evn]; refine hk _ ?_; clear hk k; try show Sat _ _ _ _ _)
    (repeat refine Sat.seq ?_)
    refine Sat.cond_b rfl (fun h2 => ?_) (fun h2 => ?_)
    · simp only [decide_eq_true_eq] at h2
      have hlt : i < es.length := by omega
      have e1 : IntKind.i64.wrap ((i : Int) + 1) = ((i + 1 : Nat) : Int) := by rw [w64 (by omega)]; omega
      refine Sat.skip ?_
      simp only [thenK]
      (repeat refine Sat.seq ?_)
      refine Sat.block ?_
      (repeat refine Sat.seq ?_)
      refine Sat.region_qat (by kernel_rfl) (by kernel_rfl) ⟨51, [(37, .b (decide (atKey es q t i))), (8, .i .i64 i), (2, .i .i64 t), (3, .op 0 b3 0), (4, .op 1 b4 0), (6, .op 2 b6 0), (7, .i .i64 0)], [.box b3 25 [.sl ad es.length cap 5 (entRd es)], .box b4 29 [.i .u32 q.addr, .i .i64 q.len], .box b6 25 [.sl none 0 0 0 fun _ _ => .v undef]]⟩ (fun k hk => ?_) ?_
      · simp -implicitDefEqProofs only [evr, id, seval, ent0, ent1, ent2, ent3, ent4, Nat.sub_zero, pfx_q, Option.map_none, pfQ_eq, evn]
        repeat' (first
          | (with_reducible refine And.intro ?_ ?_)
          | (with_reducible intro hh)
          | omega
          | (with_reducible refine hk _ ?_
             first
             | (have e9 : decide (atKey es q t i) = false := by
                  clear hk fin hno h
                  apply decide_eq_false
                  unfold atKey
                  rw [← pfQ_iff]
                  rintro ⟨g1, g2⟩
                  simp_all
                  done
                simp only [e9]
                simp -implicitDefEqProofs only [evr, id, seval, ent0, ent1, ent2, ent3, ent4, Nat.sub_zero, pfx_q, Option.map_none, evl, evn]
                done)
             | (have e9 : decide (atKey es q t i) = ((es.getD i default).from_ == t) := by
                  clear hk fin hno h
                  apply Bool.eq_iff_iff.2
                  rw [decide_eq_true_eq, beq_iff_eq]
                  unfold atKey
                  rw [← pfQ_iff]
                  simp_all
                  done
                simp only [e9]
                simp -implicitDefEqProofs only [evr, id, seval, ent0, ent1, ent2, ent3, ent4, Nat.sub_zero, pfx_q, Option.map_none, evl, evn]
                done)))
      simp only [thenK]
      refine Sat.cond_b rfl (fun h7 => ?_) (fun h7 => ?_)
      · simp only [decide_eq_true_eq] at h7
        have hv := remV_hit h1 hlt h7
        have hlen := delE_len hlt
        have e8 : i + (es.length - (i + 1)) = es.length - 1 := by omega
        (repeat refine Sat.seq ?_)
        (refine Sat.region_tree (.keep [0, 2, 5, 7, 8, 1, 6] [3, 4, 9] (.alt 3 (.alt 4 (.one 9 (.one 10 (.one 11 (.one 12 (.one 13 .done))))) (.alt 9 (.one 4 (.one 10 (.one 11 (.one 12 (.one 13 .done))))) .none)) (.alt 9 (.one 3 (.one 4 (.one 10 (.one 11 (.one 12 (.one 13 .done)))))) .none))) (by kernel_rfl) (by kernel_rfl) (fun _ _ h => h) fun k hk => ?_; simp only [WOT, List.map_cons, List.map_nil, List.getD_cons_zero, List.getD_cons_succ]; simp -implicitDefEqProofs only [evr, id, seval, ent0, ent1, ent2, ent3, ent4, Nat.sub_zero, pfx_q, Option.map_none, WOT, evn])
        simp only [e1, Int.toNat_natCast]
        repeat' (first
          | (with_reducible refine And.intro ?_ ?_)
          | omega
          | (unfold maxLen; omega)
          | (with_reducible intro)
          | (with_reducible refine hk _ ?_
             simp only [thenK]
             refine Sat.ret ?_
             simp only [thenK, blockK, Tryz.results30, evr, id, seval, List.append_nil, Int.toNat_zero, Nat.sub_self, ent0, ent1, ent2, ent3, ent4, Nat.sub_zero, pfx_q, Option.map_none, e8]
             exact .inr ⟨i, _, _, _, hv, hlt, del_rd es i hlt, rfl⟩))
      · simp only [decide_eq_false_iff_not] at h7
        refine Sat.skip ?_
        simp only [thenK, blockK]
        refine Sat.region_k fun k hk => ?_
        simp -implicitDefEqProofs only [evr, id, seval, ent0, ent1, ent2, ent3, ent4, Nat.sub_zero, pfx_q, Option.map_none, e1, evn]
        refine hk _ ?_
        simp only [thenK, blockK]
        refine ⟨i + 1, ⟨by omega, fun j hj => ?_⟩, by omega, ?_⟩
        · rcases (show j = i ∨ j < i by omega) with rfl | h6
          · exact h7
          · exact hno j h6
        · simp -implicitDefEqProofs only [evr, id, seval, ent0, ent1, ent2, ent3, ent4, Nat.sub_zero, pfx_q, Option.map_none, evl, evn]
    · simp only [decide_eq_false_iff_not] at h2
      obtain rfl : i = es.length := by omega
      refine Sat.exit ?_
      simp only [thenK, blockK, reduceIte]
      (repeat refine Sat.seq ?_)
      (refine Sat.region_k fun k hk => ?_; simp -implicitDefEqProofs only [evr, id, seval, ent0, ent1, ent2, ent3, ent4, Nat.sub_zero, pfx_q, Option.map_none, evn]; refine hk _ ?_; clear hk k; try show Sat _ _ _ _ _)
      refine Sat.ret ?_
      simp only [Tryz.results30, evr, id, seval, List.append_nil, Int.toNat_zero, Nat.sub_self, ent0, ent1, ent2, ent3, ent4, Nat.sub_zero, pfx_q, Option.map_none]
      exact .inl ⟨8, _, remV_miss h1 hno, rfl⟩
end Go.Proofs.YtepkbbmjbbnhnaaGreatDoor

/- dice.OddRegistry, by the evaluator. -/
set_option linter.unusedSimpArgs false
set_option linter.unusedVariables false
namespace Go.Proofs.YtepkbbmjbbnhnaaGreatDoor
open Go.Sort Eng
def Ent.upd (e : Ent) (j : Nat) (v : Int) : Ent := if j = 1 then { e with len := v } else if j = 2 then { e with prov := v } else if j = 3 then { e with from_ := v } else { e with to_ := v }
theorem upd_rd {es : List Ent} {i : Nat} (hi : i < es.length) (j : Nat) (h1 : 1 ≤ j) (h4 : j ≤ 4) (v : Int) : rdEq es.length 5 (rdSet (entRd es) i j [.i .i64 v]) (entRd (es.set i ((es.getD i default).upd j v))) := by
  intro p q hp hq
  unfold rdSet entRd
  simp only [List.length_cons, List.length_nil]
  by_cases e : p = i
  · subst e
    have e1 : (es.set p ((es.getD p default).upd j v)).getD p default = (es.getD p default).upd j v := by
      simp [List.getD, List.getElem?_set, hi]
    rw [e1]
    rcases (show j = 1 ∨ j = 2 ∨ j = 3 ∨ j = 4 by omega) with rfl | rfl | rfl | rfl <;> rcases (show q = 0 ∨ q = 1 ∨ q = 2 ∨ q = 3 ∨ q = 4 by omega) with rfl | rfl | rfl | rfl | rfl <;> simp [Ent.cs, Ent.upd]
  · have e1 : (es.set i ((es.getD i default).upd j v)).getD p default = es.getD p default := by
      simp [List.getD, List.getElem?_set, Ne.symm e]
    rw [e1]
    simp [e]
theorem upd_ok {e : Ent} (h : eOk e) (j : Nat) (v : Int) : eOk (e.upd j v) := by
  unfold Ent.upd eOk at *
  split
  · exact h
  · split
    · exact h
    · split <;> exact h
theorem set_ok {es : List Ent} (h : esOk es) {e : Ent} (he : eOk e) (i : Nat) : esOk (es.set i e) := fun x hx => by
  rcases List.mem_or_eq_of_mem_set hx with hx | rfl
  · exact h x hx
  · exact he
theorem swap_rd {es : List Ent} {i : Nat} (hi : i < es.length) : rdEq es.length 5 (rdSet (rdSet (entRd es) i 0 (Ent.cs (es.getD 0 default))) 0 0 (Ent.cs (es.getD i default))) (entRd ((es.set i (es.getD 0 default)).set 0 (es.getD i default))) := by
  intro p q hp hq
  have hc : ∀ e : Ent, (Ent.cs e).length = 5 := fun _ => rfl
  have g : ∀ p, p < es.length → ((es.set i (es.getD 0 default)).set 0 (es.getD i default)).getD p default = if p = 0 then es.getD i default else if p = i then es.getD 0 default else es.getD p default := fun p hp => by
    by_cases h0 : p = 0
    · subst h0
      rw [if_pos rfl]
      simp only [List.getD, List.getElem?_set, List.length_set]
      simp [hp]
    · rw [if_neg h0]
      by_cases h1 : p = i
      · subst h1
        rw [if_pos rfl]
        simp only [List.getD, List.getElem?_set, List.length_set]
        simp [hi, Ne.symm h0]
      · rw [if_neg h1]
        simp only [List.getD, List.getElem?_set, List.length_set]
        simp [Ne.symm h0, Ne.symm h1]
  show _ = (Ent.cs _).getD q default
  rw [g p hp]
  unfold rdSet entRd
  by_cases h0 : p = 0
  · rw [if_pos ⟨h0, Nat.zero_le _, by rw [hc]; omega⟩, if_pos h0, Nat.sub_zero]
  · rw [if_neg (fun h => h0 h.1), if_neg h0]
    by_cases h1 : p = i
    · rw [if_pos ⟨h1, Nat.zero_le _, by rw [hc]; omega⟩, if_pos h1, Nat.sub_zero]
    · rw [if_neg (fun h => h1 h.1), if_neg h1]
theorem app_rd (es : List Ent) (rd : Nat → Nat → SV) (hrd : ∀ p q, p < es.length → q < 5 → rd p q = entRd es p q) (e : Ent) (rd2 : Nat → Nat → SV) (h2 : ∀ q, q < 5 → rd2 0 q = (Ent.cs e).getD q default) : rdEq (es.length + 1) 5 (rdCat es.length rd rd2) (entRd (es ++ [e])) := by
  intro p q hp hq
  unfold rdCat
  split
  · rename_i h
    rw [hrd p q h hq]
    unfold entRd
    simp [List.getD, List.getElem?_append, h]
  · rename_i h
    obtain rfl : p = es.length := by omega
    rw [Nat.sub_self, h2 q hq]
    unfold entRd
    simp [List.getD, List.getElem?_append]
set_option maxRecDepth 100000 in
theorem oddRegistryC (cb : Nat) (ad : Option Addr) (cap : Nat) (es : List Ent) (h : esOk es) (hn : es.length ≤ 900) : Contract (Frm.codes cb) Tryz.prog 9 [ptr cb, regS ad cap es] (fun r => ∃ a c fs, r = regS a c fs ∧ esOk fs ∧ fs.length ≤ es.length + 1) := by
  refine Contract.same (post := fun r => ∃ a c fs n rd, n = fs.length ∧ rdEq n 5 rd (entRd fs) ∧ r = (.agg 1 fun j => [SV.sl a n c 5 rd].getD j default) ∧ esOk fs ∧ fs.length ≤ es.length + 1) ?_ (by
    rintro r ⟨a, c, fs, n, rd, rfl, h1, rfl, h2, h3⟩
    exact ⟨regS a c fs, sim_agg1 (f := fun j => [SV.sl a fs.length c 5 rd].getD j default) (g := fun j => [SV.sl a fs.length c 5 (entRd fs)].getD j default) (by show sim (SV.sl a fs.length c 5 rd) (SV.sl a fs.length c 5 (entRd fs)); exact sim_sl fun p j hi hj => h1 p j hi hj), a, c, fs, rfl, h2, h3⟩)
  refine contract_of Tryz.func9 rfl (by kernel_rfl) ?_
  simp only [Tryz.ntmps9, argEnv, ptr, regS]
  (repeat refine Sat.seq ?_)
  (refine Sat.region_k fun k hk => ?_; simp -implicitDefEqProofs only [evr, id, seval, Nat.sub_zero, Option.map_none, ent0, ent1, ent2, ent3, ent4, regS, tupL, ptr, evn])
  intro b3 b4
  (refine hk _ ?_; clear hk k; try show Sat _ _ _ _ _)
  (repeat refine Sat.seq ?_)
  (refine Sat.region_k fun k hk => ?_; simp -implicitDefEqProofs only [evr, id, seval, Nat.sub_zero, Option.map_none, ent0, ent1, ent2, ent3, ent4, regS, tupL, ptr, evn])
  refine ⟨⟨by unfold maxLen; omega, by omega⟩, fun a1 c1 => ?_⟩
  (refine hk _ ?_; clear hk k; try show Sat _ _ _ _ _)
  (repeat refine Sat.seq ?_)
  (refine Sat.region_k fun k hk => ?_; simp -implicitDefEqProofs only [evr, id, seval, Nat.sub_zero, Option.map_none, ent0, ent1, ent2, ent3, ent4, regS, tupL, ptr, evn]; refine hk _ ?_; clear hk k; try show Sat _ _ _ _ _)
  (repeat refine Sat.seq ?_)
  refine Sat.cond_b rfl (fun h1 => ?_) (fun h1 => ?_)
  · have h0 : es = [] := List.eq_nil_of_length_eq_zero (by simp only [beq_iff_eq] at h1; omega)
    subst h0
    (repeat refine Sat.seq ?_)
    (refine Sat.region_k fun k hk => ?_; simp -implicitDefEqProofs only [evr, id, seval, Nat.sub_zero, Option.map_none, ent0, ent1, ent2, ent3, ent4, regS, tupL, ptr, evn])
    refine wcall_plain (nextC cb 2 (by decide) (by decide)) rfl (by rintro _ ⟨x, rfl, _⟩; exact ok_plain rfl) ?_
    rintro r ⟨x, rfl, hx0, hx1⟩
    simp -implicitDefEqProofs only [evr, id, seval, Nat.sub_zero, Option.map_none, ent0, ent1, ent2, ent3, ent4, regS, tupL, ptr, evn]
    refine wcall_plain (nextC cb 2 (by decide) (by decide)) rfl (by rintro _ ⟨x, rfl, _⟩; exact ok_plain rfl) ?_
    rintro r ⟨y, rfl, hy0, hy1⟩
    simp -implicitDefEqProofs only [evr, id, seval, Nat.sub_zero, Option.map_none, ent0, ent1, ent2, ent3, ent4, regS, tupL, ptr, evn]
    refine fun bl => ⟨by unfold maxLen; omega, fun a2 c2 => ?_⟩
    (refine hk _ ?_; clear hk k; try show Sat _ _ _ _ _)
    refine Sat.ret ?_
    simp only [Tryz.results9, evr, id, seval, List.append_nil, Int.toNat_zero, Nat.sub_self, Nat.sub_zero, Option.map_none, ent0, ent1, ent2, ent3, ent4, regS, tupL, ptr]
    exact ⟨_, _, [⟨0, 0, x, 0, y⟩], 1, _, rfl, fun p q hp hq => by
      obtain rfl : p = 0 := by omega
      rcases (show q = 0 ∨ q = 1 ∨ q = 2 ∨ q = 3 ∨ q = 4 by omega) with rfl | rfl | rfl | rfl | rfl <;> rfl, rfl, fun e he => by rw [List.mem_singleton.1 he]; exact (by decide : (0 : Nat) < 2 ^ 32), by simp⟩
  · have hlt : 0 < es.length := by
      simp only [beq_eq_false_iff_ne, ne_eq] at h1
      omega
    refine Sat.skip ?_
    simp only [thenK]
    (repeat refine Sat.seq ?_)
    (refine Sat.region_k fun k hk => ?_; simp -implicitDefEqProofs only [evr, id, seval, Nat.sub_zero, Option.map_none, ent0, ent1, ent2, ent3, ent4, regS, tupL, ptr, evn])
    refine wcall_plain (nextC cb es.length (by omega) (by omega)) rfl (by rintro _ ⟨x, rfl, _⟩; exact ok_plain rfl) ?_
    rintro r ⟨x, rfl, hx0, hx1⟩
    obtain ⟨i, rfl⟩ := Int.eq_ofNat_of_zero_le hx0
    have hi : i < es.length := by omega
    simp -implicitDefEqProofs only [evr, id, seval, Nat.sub_zero, Option.map_none, ent0, ent1, ent2, ent3, ent4, regS, tupL, ptr, evn]
    (refine hk _ ?_; clear hk k; try show Sat _ _ _ _ _)
    (repeat refine Sat.seq ?_)
    (refine Sat.region_k fun k hk => ?_; simp -implicitDefEqProofs only [evr, id, seval, Nat.sub_zero, Option.map_none, ent0, ent1, ent2, ent3, ent4, regS, tupL, ptr, evn])
    refine wcall_plain (nextC cb 5 (by decide) (by decide)) rfl (by rintro _ ⟨x, rfl, _⟩; exact ok_plain rfl) ?_
    rintro r ⟨y, rfl, hy0, hy1⟩
    simp -implicitDefEqProofs only [evr, id, seval, Nat.sub_zero, Option.map_none, ent0, ent1, ent2, ent3, ent4, regS, tupL, ptr, evn]
    (refine hk _ ?_; clear hk k; try show Sat _ _ _ _ _)
    (repeat refine Sat.seq ?_)
    refine Sat.join (ι := Option Addr × Nat × List Ent) (fun z => ⟨86, [(5, .os 2 z.1 z.2.2.length z.2.1), (4, .op 1 b4 0)], [.gone, .box b4 25 [.sl none 0 0 0 fun _ _ => .v undef], .row z.1 31 z.2.2.length z.2.1 5 (entRd z.2.2)]⟩) (fun z => esOk z.2.2 ∧ z.2.2.length ≤ es.length + 1) ?_ ?_
    · refine Sat.block ?_
      (repeat refine Sat.seq ?_)
      (refine Sat.region_k fun k hk => ?_; simp -implicitDefEqProofs only [evr, id, seval, Nat.sub_zero, Option.map_none, ent0, ent1, ent2, ent3, ent4, regS, tupL, ptr, evn]; refine hk _ ?_; clear hk k; try show Sat _ _ _ _ _)
      refine Sat.cond_b rfl (fun h2 => ?_) (fun h2 => ?_)
      · (repeat refine Sat.seq ?_)
        (refine Sat.region_k fun k hk => ?_; simp -implicitDefEqProofs only [evr, id, seval, Nat.sub_zero, Option.map_none, ent0, ent1, ent2, ent3, ent4, regS, tupL, ptr, evn])
        intro bl
        refine wcall_plain (pickI cb bl [0, 2147483647, 2147483648] (fun _ => True) (by simp) (by simp) (fun _ _ => trivial)) (by simp -implicitDefEqProofs only [evr, id, seval, Nat.sub_zero, Option.map_none, ent0, ent1, ent2, ent3, ent4, regS, tupL, ptr, evn]) plain_pick ?_
        rintro r ⟨v, rfl, -⟩
        simp -implicitDefEqProofs only [evr, id, seval, Nat.sub_zero, Option.map_none, ent0, ent1, ent2, ent3, ent4, regS, tupL, ptr, evn]
        refine ⟨by omega, by omega, ?_⟩
        (refine hk _ ?_; clear hk k; try show Sat _ _ _ _ _)
        refine ⟨(a1, c1, es.set i ((es.getD i default).upd 2 v)), ⟨set_ok h (upd_ok (esOk_at h i) 2 v) i, by simp⟩, ?_⟩
        simp only [List.length_set]
        simp -implicitDefEqProofs only [evr, id, seval, Nat.sub_zero, Option.map_none, ent0, ent1, ent2, ent3, ent4, regS, tupL, ptr, evl, evn]
        exact upd_rd hi 2 (by decide) (by decide) v
      · (repeat refine Sat.seq ?_)
        (refine Sat.region_k fun k hk => ?_; simp -implicitDefEqProofs only [evr, id, seval, Nat.sub_zero, Option.map_none, ent0, ent1, ent2, ent3, ent4, regS, tupL, ptr, evn]; refine hk _ ?_; clear hk k; try show Sat _ _ _ _ _)
        refine Sat.cond_b rfl (fun h2 => ?_) (fun h2 => ?_)
        · (repeat refine Sat.seq ?_)
          (refine Sat.region_k fun k hk => ?_; simp -implicitDefEqProofs only [evr, id, seval, Nat.sub_zero, Option.map_none, ent0, ent1, ent2, ent3, ent4, regS, tupL, ptr, evn])
          refine ⟨by omega, by omega, fun bl => ?_⟩
          refine wcall_plain (pickI cb bl [(es.getD i default).from_, 1125899906842624, 1125899906842625] (fun _ => True) (by simp) (by simp) (fun _ _ => trivial)) (by simp -implicitDefEqProofs only [evr, id, seval, Nat.sub_zero, Option.map_none, ent0, ent1, ent2, ent3, ent4, regS, tupL, ptr, evn]) plain_pick ?_
          rintro r ⟨v, rfl, -⟩
          simp -implicitDefEqProofs only [evr, id, seval, Nat.sub_zero, Option.map_none, ent0, ent1, ent2, ent3, ent4, regS, tupL, ptr, evn]
          refine ⟨by omega, by omega, ?_⟩
          (refine hk _ ?_; clear hk k; try show Sat _ _ _ _ _)
          refine ⟨(a1, c1, es.set i ((es.getD i default).upd 4 v)), ⟨set_ok h (upd_ok (esOk_at h i) 4 v) i, by simp⟩, ?_⟩
          simp only [List.length_set]
          simp -implicitDefEqProofs only [evr, id, seval, Nat.sub_zero, Option.map_none, ent0, ent1, ent2, ent3, ent4, regS, tupL, ptr, evl, evn]
          exact upd_rd hi 4 (by decide) (by decide) v
        · (repeat refine Sat.seq ?_)
          (refine Sat.region_k fun k hk => ?_; simp -implicitDefEqProofs only [evr, id, seval, Nat.sub_zero, Option.map_none, ent0, ent1, ent2, ent3, ent4, regS, tupL, ptr, evn]; refine hk _ ?_; clear hk k; try show Sat _ _ _ _ _)
          refine Sat.cond_b rfl (fun h2 => ?_) (fun h2 => ?_)
          · (repeat refine Sat.seq ?_)
            (refine Sat.region_k fun k hk => ?_; simp -implicitDefEqProofs only [evr, id, seval, Nat.sub_zero, Option.map_none, ent0, ent1, ent2, ent3, ent4, regS, tupL, ptr, evn])
            intro bl
            refine wcall_plain (pickI cb bl [-1, 0, 33, 32] (fun _ => True) (by simp) (by simp) (fun _ _ => trivial)) (by simp -implicitDefEqProofs only [evr, id, seval, Nat.sub_zero, Option.map_none, ent0, ent1, ent2, ent3, ent4, regS, tupL, ptr, evn]) plain_pick ?_
            rintro r ⟨v, rfl, -⟩
            simp -implicitDefEqProofs only [evr, id, seval, Nat.sub_zero, Option.map_none, ent0, ent1, ent2, ent3, ent4, regS, tupL, ptr, evn]
            refine ⟨by omega, by omega, ?_⟩
            (refine hk _ ?_; clear hk k; try show Sat _ _ _ _ _)
            refine ⟨(a1, c1, es.set i ((es.getD i default).upd 1 v)), ⟨set_ok h (upd_ok (esOk_at h i) 1 v) i, by simp⟩, ?_⟩
            simp only [List.length_set]
            simp -implicitDefEqProofs only [evr, id, seval, Nat.sub_zero, Option.map_none, ent0, ent1, ent2, ent3, ent4, regS, tupL, ptr, evl, evn]
            exact upd_rd hi 1 (by decide) (by decide) v
          · (repeat refine Sat.seq ?_)
            (refine Sat.region_k fun k hk => ?_; simp -implicitDefEqProofs only [evr, id, seval, Nat.sub_zero, Option.map_none, ent0, ent1, ent2, ent3, ent4, regS, tupL, ptr, evn]; refine hk _ ?_; clear hk k; try show Sat _ _ _ _ _)
            refine Sat.cond_b rfl (fun h2 => ?_) (fun h2 => ?_)
            · (repeat refine Sat.seq ?_)
              (refine Sat.region_ord [0, 1, 2, 3, 4, 6, 7, 8, 5, 9, 10, 11, 12, 13] (by kernel_rfl) (by kernel_rfl) rfl rfl (fun _ _ h => h) fun k hk => ?_; simp only [List.map_cons, List.map_nil, List.getD_cons_zero, List.getD_cons_succ]; simp -implicitDefEqProofs only [evr, id, seval, Nat.sub_zero, Option.map_none, ent0, ent1, ent2, ent3, ent4, regS, tupL, ptr, evn])
              refine ⟨by omega, by omega, by omega, by omega, by omega, by omega, by omega, by omega, ?_⟩
              (refine hk _ ?_; clear hk k; try show Sat _ _ _ _ _)
              refine ⟨(a1, c1, (es.set i (es.getD 0 default)).set 0 (es.getD i default)), ⟨set_ok (set_ok h (esOk_at h 0) i) (esOk_at h i) 0, by simp⟩, ?_⟩
              simp only [List.length_set]
              simp -implicitDefEqProofs only [evr, id, seval, Nat.sub_zero, Option.map_none, ent0, ent1, ent2, ent3, ent4, regS, tupL, ptr, evl, evn]
              exact swap_rd hi
            · (repeat refine Sat.seq ?_)
              (refine Sat.region_k fun k hk => ?_; simp -implicitDefEqProofs only [evr, id, seval, Nat.sub_zero, Option.map_none, ent0, ent1, ent2, ent3, ent4, regS, tupL, ptr, evn]; refine hk _ ?_; clear hk k; try show Sat _ _ _ _ _)
              refine Sat.cond_b rfl (fun h2 => ?_) (fun h2 => ?_)
              · (repeat refine Sat.seq ?_)
                (refine Sat.region_k fun k hk => ?_; simp -implicitDefEqProofs only [evr, id, seval, Nat.sub_zero, Option.map_none, ent0, ent1, ent2, ent3, ent4, regS, tupL, ptr, evn])
                refine ⟨by omega, by omega, fun bl => ⟨⟨by unfold maxLen; omega, by omega⟩, fun a7 c7 => ?_⟩⟩
                (refine hk _ ?_; clear hk k; try show Sat _ _ _ _ _)
                refine ⟨(a7, c7, es ++ [es.getD i default]), ⟨fun x hx => ?_, by simp⟩, ?_⟩
                · rcases List.mem_append.1 hx with hx | hx
                  · exact h x hx
                  · rw [List.mem_singleton.1 hx]; exact esOk_at h i
                have e7 : (es ++ [es.getD i default]).length = es.length + 1 := by simp
                rw [e7]
                simp -implicitDefEqProofs only [evr, id, seval, Nat.sub_zero, Option.map_none, ent0, ent1, ent2, ent3, ent4, regS, tupL, ptr, evl, evn]
                exact app_rd es (entRd es) (fun _ _ _ _ => rfl) (es.getD i default) _ (fun q hq => by rcases (show q = 0 ∨ q = 1 ∨ q = 2 ∨ q = 3 ∨ q = 4 by omega) with rfl | rfl | rfl | rfl | rfl <;> rfl)
              · refine Sat.skip ?_
                simp only [thenK, blockK]
                refine ⟨(a1, c1, es), ⟨h, by simp only; omega⟩, ?_⟩
                simp -implicitDefEqProofs only [evr, id, seval, Nat.sub_zero, Option.map_none, ent0, ent1, ent2, ent3, ent4, regS, tupL, ptr, evl, evn]
    rintro ⟨a2, c2, fs⟩ ⟨g1, g2⟩
    simp only at g1 g2 ⊢
    (repeat refine Sat.seq ?_)
    (refine Sat.region_k fun k hk => ?_; simp -implicitDefEqProofs only [evr, id, seval, Nat.sub_zero, Option.map_none, ent0, ent1, ent2, ent3, ent4, regS, tupL, ptr, evn]; refine hk _ ?_; clear hk k; try show Sat _ _ _ _ _)
    refine Sat.ret ?_
    simp only [Tryz.results9, evr, id, seval, List.append_nil, Int.toNat_zero, Nat.sub_self, Nat.sub_zero, Option.map_none, ent0, ent1, ent2, ent3, ent4, regS, tupL, ptr]
    exact ⟨a2, c2, fs, _, _, rfl, fun _ _ _ _ => rfl, rfl, g1, g2⟩
end Go.Proofs.YtepkbbmjbbnhnaaGreatDoor

/- The reference of law 32: Same, by the evaluator. -/
set_option linter.unusedSimpArgs false
set_option linter.unusedVariables false
namespace Go.Proofs.YtepkbbmjbbnhnaaGreatDoor
open Go.Sort Eng
def entB (x y : Ent) : Bool := [[(x.addr : Int) == y.addr, x.len == y.len].all id, x.prov == y.prov, x.from_ == y.from_, x.to_ == y.to_].all id
theorem entB_iff {x y : Ent} : entB x y = true ↔ x = y := by
  obtain ⟨a, b, c, d, e⟩ := x
  obtain ⟨a', b', c', d', e'⟩ := y
  unfold entB
  simp only [List.all_cons, List.all_nil, id, Bool.and_true, Bool.and_eq_true, beq_iff_eq, Ent.mk.injEq]
  omega
theorem ent_eqA (es fs : List Ent) (i j : Nat) : aggEq Tryz.prog 31 5 (fun p => entRd es i p) 5 (fun p => entRd fs j p) = some (entB (es.getD i default) (fs.getD j default)) := by kernel_rfl
set_option maxRecDepth 100000 in
theorem refSameC (F : Frm) (ad ad' : Option Addr) (cap cap' : Nat) (es fs : List Ent) (hn : es.length ≤ 1000000) :
    Contract F Tryz.prog 25 [regS ad cap es, regS ad' cap' fs] (fun r => r = .b (decide (es = fs))) := by
  refine contract_of Tryz.func25 rfl (by kernel_rfl) ?_
  simp only [Tryz.ntmps25, argEnv, regS]
  (repeat refine Sat.seq ?_)
  (refine Sat.region_k fun k hk => ?_; simp -implicitDefEqProofs only [evr, id, seval, Nat.sub_zero, Option.map_none, ent0, ent1, ent2, ent3, ent4, ent_eqA, evn])
  intro b2 b3
  (refine hk _ ?_; clear hk k; try show Sat _ _ _ _ _)
  (repeat refine Sat.seq ?_)
  (refine Sat.region_k fun k hk => ?_; simp -implicitDefEqProofs only [evr, id, seval, Nat.sub_zero, Option.map_none, ent0, ent1, ent2, ent3, ent4, ent_eqA, evn]; refine hk _ ?_; clear hk k; try show Sat _ _ _ _ _)
  (repeat refine Sat.seq ?_)
  refine Sat.cond_b rfl (fun h => ?_) (fun h => ?_)
  · (repeat refine Sat.seq ?_)
    (refine Sat.region_k fun k hk => ?_; simp -implicitDefEqProofs only [evr, id, seval, Nat.sub_zero, Option.map_none, ent0, ent1, ent2, ent3, ent4, ent_eqA, evn]; refine hk _ ?_; clear hk k; try show Sat _ _ _ _ _)
    refine Sat.ret ?_
    simp only [Tryz.results25, evr, id, seval, List.append_nil, Int.toNat_zero, Nat.sub_self, Nat.sub_zero, Option.map_none, ent0, ent1, ent2, ent3, ent4, ent_eqA]
    have hne : ¬ es = fs := fun e => by simp [e] at h
    rw [decide_eq_false hne]
  · have hlen : es.length = fs.length := by
      have : (es.length : Int) = fs.length := by simpa using h
      omega
    refine Sat.skip ?_
    simp only [thenK]
    (repeat refine Sat.seq ?_)
    (refine Sat.region_k fun k hk => ?_; simp -implicitDefEqProofs only [evr, id, seval, Nat.sub_zero, Option.map_none, ent0, ent1, ent2, ent3, ent4, ent_eqA, evn]; refine hk _ ?_; clear hk k; try show Sat _ _ _ _ _)
    (repeat refine Sat.seq ?_)
    refine Sat.block ?_
    refine Sat.loop (ι := Nat) (fun i => ⟨31, [(5, .i .i64 i), (2, .op 0 b2 0), (3, .op 1 b3 0)], [.box b2 25 [.sl ad es.length cap 5 (entRd es)], .box b3 25 [.sl ad' fs.length cap' 5 (entRd fs)]]⟩)
      (fun i => i ≤ es.length ∧ ∀ j, j < i → es.getD j default = fs.getD j default) (fun i => es.length - i) 0 ⟨Nat.zero_le _, fun j hj => absurd hj (Nat.not_lt_zero _)⟩ (by simp -implicitDefEqProofs only [evr, id, seval, Nat.sub_zero, Option.map_none, ent0, ent1, ent2, ent3, ent4, ent_eqA, evl, evn]; done) ?_
    rintro i ⟨hi, hz⟩
    (repeat refine Sat.seq ?_)
    (refine Sat.region_k fun k hk => ?_; simp -implicitDefEqProofs only [evr, id, seval, Nat.sub_zero, Option.map_none, ent0, ent1, ent2, ent3, ent4, ent_eqA, evn]; refine hk _ ?_; clear hk k; try show Sat _ _ _ _ _)
    (repeat refine Sat.seq ?_)
    refine Sat.cond_b rfl (fun h2 => ?_) (fun h2 => ?_)
    · simp only [decide_eq_true_eq] at h2
      have hlt : i < es.length := by omega
      refine Sat.skip ?_
      simp only [thenK]
      (repeat refine Sat.seq ?_)
      refine Sat.block ?_
      (repeat refine Sat.seq ?_)
      (refine Sat.region_rows [⟨0, 21, 4, 0⟩, ⟨1, 22, 1048576, 1⟩, ⟨0, 23, 32, 0⟩, ⟨6, 24, 6291456, 0⟩, ⟨8, 25, 8388608, 1⟩, ⟨0, 26, 8, 0⟩, ⟨32, 27, 33554432, 1⟩, ⟨0, 28, 32, 0⟩, ⟨192, 29, 201326592, 0⟩, ⟨256, 30, 268435456, 1⟩, ⟨528, 31, 553648128, 0⟩] [0, 2, 5, 7, 1, 6, 3, 8, 4, 9, 10] [] [] (by kernel_rfl) (by kernel_rfl) (fun _ _ h => h) fun k hk => ?_; simp only [List.map_cons, List.map_nil, List.getD_cons_zero, List.getD_cons_succ, btseq_cons, btseq_free, btseq_nil]; simp -implicitDefEqProofs only [evr, id, seval, Nat.sub_zero, Option.map_none, ent0, ent1, ent2, ent3, ent4, ent_eqA, evn])
      refine ⟨by omega, by omega, ?_⟩
      (refine hk _ ?_; clear hk k; try show Sat _ _ _ _ _)
      (repeat refine Sat.seq ?_)
      refine Sat.cond_b rfl (fun h3 => ?_) (fun h3 => ?_)
      · have h4 : ¬ es.getD i default = fs.getD i default := fun e => by
          rw [entB_iff.2 e] at h3
          cases h3
        (repeat refine Sat.seq ?_)
        (refine Sat.region_k fun k hk => ?_; simp -implicitDefEqProofs only [evr, id, seval, Nat.sub_zero, Option.map_none, ent0, ent1, ent2, ent3, ent4, ent_eqA, evn]; refine hk _ ?_; clear hk k; try show Sat _ _ _ _ _)
        refine Sat.ret ?_
        simp only [thenK, blockK, Tryz.results25, evr, id, seval, List.append_nil, Int.toNat_zero, Nat.sub_self, Nat.sub_zero, Option.map_none, ent0, ent1, ent2, ent3, ent4, ent_eqA]
        rw [decide_eq_false (fun e => h4 (by rw [e]))]
      · have h4 : es.getD i default = fs.getD i default := entB_iff.1 (by simpa using h3)
        refine Sat.skip ?_
        simp only [thenK, blockK, reduceIte]
        refine Sat.region_k fun k hk => ?_
        simp -implicitDefEqProofs only [evr, id, seval, Nat.sub_zero, Option.map_none, ent0, ent1, ent2, ent3, ent4, ent_eqA, evn]
        have e1 : IntKind.i64.wrap ((i : Int) + 1) = ((i + 1 : Nat) : Int) := by rw [w64 (by omega)]; omega
        rw [e1]
        refine hk _ ?_
        simp only [thenK, blockK]
        refine ⟨i + 1, ⟨by omega, fun j hj => ?_⟩, by omega, ?_⟩
        · rcases (show j = i ∨ j < i by omega) with rfl | h6
          · exact h4
          · exact hz j h6
        · simp -implicitDefEqProofs only [evr, id, seval, Nat.sub_zero, Option.map_none, ent0, ent1, ent2, ent3, ent4, ent_eqA, evl, evn]
    · simp only [decide_eq_false_iff_not] at h2
      obtain rfl : i = es.length := by omega
      refine Sat.exit ?_
      simp only [thenK, blockK, reduceIte]
      (repeat refine Sat.seq ?_)
      (refine Sat.region_k fun k hk => ?_; simp -implicitDefEqProofs only [evr, id, seval, Nat.sub_zero, Option.map_none, ent0, ent1, ent2, ent3, ent4, ent_eqA, evn]; refine hk _ ?_; clear hk k; try show Sat _ _ _ _ _)
      refine Sat.ret ?_
      simp only [Tryz.results25, evr, id, seval, List.append_nil, Int.toNat_zero, Nat.sub_self, Nat.sub_zero, Option.map_none, ent0, ent1, ent2, ent3, ent4, ent_eqA]
      have e9 : es = fs := List.ext_getElem hlen fun j h5 h6 => by
        have := hz j h5
        rwa [getD_lt h5, getD_lt h6] at this
      rw [decide_eq_true e9]
end Go.Proofs.YtepkbbmjbbnhnaaGreatDoor

/- The example of the chapter, by the evaluator: awake of law 32. -/
set_option linter.unusedSimpArgs false
set_option linter.unusedVariables false
namespace Go.Proofs.YtepkbbmjbbnhnaaGreatDoor
open Go.Sort Eng
theorem aw1_e : eOk aw1 := by unfold eOk; decide
theorem aw2_e : eOk aw2 := by unfold eOk; decide
theorem aw_es1 : esOk [aw1] := fun e he => by rw [List.mem_singleton.1 he]; exact aw1_e
theorem aw_es2 : esOk [aw1, aw2] := fun e he => by
  rcases List.mem_cons.1 he with rfl | he
  · exact aw1_e
  · rw [List.mem_singleton.1 he]; exact aw2_e
theorem aw_ow (l : List Owd) (h : l = [⟨5, 0, 50⟩, ⟨7, 50, 80⟩, ⟨5, 80, 100⟩, ⟨0, 100, 1125899906842624⟩]) : aggEq Tryz.prog 51 3 (fun j => owRd l 1 j) 3 (fun j => [SV.i .i64 7, SV.i .i64 50, SV.i .i64 80].getD j default) = some true := by subst h; kernel_rfl
set_option maxRecDepth 100000 in
theorem aw_s : ((mkB "10.0.0.0/8 5 0 100\n10.1.0.0/16 7 50 80\n".toUTF8.data.toList).toList == (⟨#[49, 48, 46, 48, 46, 48, 46, 48, 47, 56, 32, 53, 32, 48, 32, 49, 48, 48, 10, 49, 48, 46, 49, 46, 48, 46, 48, 47, 49, 54, 32, 55, 32, 53, 48, 32, 56, 48, 10]⟩ : ByteArray).toList) = true := by
  rw [mkB_toList, ByteArray.toList_eq]
  decide +kernel
set_option maxRecDepth 100000 in
theorem awakeC : Contract FrA Tryz.prog 6 [] (fun r => r = .b true) := by
  refine contract_of Tryz.func6 rfl (by kernel_rfl) ?_
  simp only [Tryz.ntmps6, argEnv]
  (repeat refine Sat.seq ?_)
  (refine Sat.region_k fun k hk => ?_; simp -implicitDefEqProofs only [evr, id, seval, Nat.sub_zero, regS, entS, Ent.cs, tupL, evn]; refine hk _ ?_; clear hk k; try show Sat _ _ _ _ _)
  (repeat refine Sat.seq ?_)
  (refine Sat.region_k fun k hk => ?_; simp -implicitDefEqProofs only [evr, id, seval, Nat.sub_zero, regS, entS, Ent.cs, tupL, evn])
  refine wcall_slice ((addC FrA none 0 [] (fun e he => by cases he) (by decide) aw1 aw1_e).of_sim (args := [.agg 1 fun j => [SV.sl none 0 0 0 fun _ _ => .v undef].getD j default, entS aw1]) ⟨sim_agg1 (f := fun j => [SV.sl none 0 0 0 fun _ _ => .v undef].getD j default) (g := fun j => [SV.sl none 0 0 5 (entRd [])].getD j default) (sim_nil _ _ _ _), sim_refl _, trivial⟩) rfl (by simp -implicitDefEqProofs only [evr, id, seval, Nat.sub_zero, regS, entS, Ent.cs, tupL, evn]; rfl) ?_
  rintro r ⟨a1, c1, rfl⟩
  rw [aw_add1]
  simp -implicitDefEqProofs only [evr, id, seval, Nat.sub_zero, regS, entS, Ent.cs, tupL, evn]
  intro b1
  (refine hk _ ?_; clear hk k; try show Sat _ _ _ _ _)
  (repeat refine Sat.seq ?_)
  (refine Sat.region_k fun k hk => ?_; simp -implicitDefEqProofs only [evr, id, seval, Nat.sub_zero, regS, entS, Ent.cs, tupL, evn])
  refine wcall_slice (addC FrA a1 c1 [aw1] aw_es1 (by decide) aw2 aw2_e) rfl (by simp -implicitDefEqProofs only [evr, id, seval, Nat.sub_zero, regS, entS, Ent.cs, tupL, evn]; first | done | rfl) ?_
  rintro r ⟨a2, c2, rfl⟩
  rw [aw_add2]
  simp -implicitDefEqProofs only [evr, id, seval, Nat.sub_zero, regS, entS, Ent.cs, tupL, evn]
  (refine hk _ ?_; clear hk k; try show Sat _ _ _ _ _)
  (repeat refine Sat.seq ?_)
  (refine Sat.region_k fun k hk => ?_; simp -implicitDefEqProofs only [evr, id, seval, Nat.sub_zero, regS, entS, Ent.cs, tupL, evn]; refine hk _ ?_; clear hk k; try show Sat _ _ _ _ _)
  (repeat refine Sat.seq ?_)
  (refine Sat.region_k fun k hk => ?_; simp -implicitDefEqProofs only [evr, id, seval, Nat.sub_zero, regS, entS, Ent.cs, tupL, evn])
  refine wcall_slice (historyC FrA ⟨a2, c2, [aw1, aw2]⟩ aw_es2 (show 2 ≤ 1000000 by decide) 167837697 (by decide)) rfl (by simp -implicitDefEqProofs only [evr, id, seval, Nat.sub_zero, regS, entS, Ent.cs, tupL, RgP.s, evn]; first | done | rfl) ?_
  rintro r ⟨a3, c3, rfl⟩
  have hh := aw_his ⟨a2, c2, [aw1, aw2]⟩ rfl
  have hl : (histL 167837697 ⟨a2, c2, [aw1, aw2]⟩).length = 4 := by rw [hh]; rfl
  have ho := aw_ow _ hh
  rw [hl]
  generalize histL 167837697 ⟨a2, c2, [aw1, aw2]⟩ = hs at *
  simp -implicitDefEqProofs only [evr, id, seval, Nat.sub_zero, regS, entS, Ent.cs, tupL, evn]
  (refine hk _ ?_; clear hk k; try show Sat _ _ _ _ _)
  (repeat refine Sat.seq ?_)
  (refine Sat.region_k fun k hk => ?_; simp -implicitDefEqProofs only [evr, id, seval, Nat.sub_zero, regS, entS, Ent.cs, tupL, evn])
  refine wcall_plain (formatRC a2 c2 [aw1, aw2] aw_es2) (by simp -implicitDefEqProofs only [evr, id, seval, Nat.sub_zero, regS, entS, Ent.cs, tupL, evn]; first | done | rfl) (by rintro _ rfl; exact ok_tupL rfl) ?_
  rintro r rfl
  rw [aw_fmt]
  simp -implicitDefEqProofs only [evr, id, seval, Nat.sub_zero, regS, entS, Ent.cs, tupL, evn]
  (refine hk _ ?_; clear hk k; try show Sat _ _ _ _ _)
  (repeat refine Sat.seq ?_)
  (refine Sat.region_k fun k hk => ?_; simp -implicitDefEqProofs only [evr, id, seval, Nat.sub_zero, regS, entS, Ent.cs, tupL, evn])
  refine wcall_plain (providerC FrA a2 c2 [aw1, aw2] aw_es2 (by decide) 167837697 (by decide) 49) (by simp -implicitDefEqProofs only [evr, id, seval, Nat.sub_zero, regS, entS, Ent.cs, tupL, evn]; first | done | rfl) (by rintro _ rfl; exact ok_plain rfl) ?_
  rintro r rfl
  simp only [aw_p1, evr, id, seval, List.append_nil, Int.toNat_zero, Nat.sub_self, Nat.sub_zero, regS, entS, Ent.cs, tupL]
  refine wcall_plain (providerC FrA a2 c2 [aw1, aw2] aw_es2 (by decide) 167837697 (by decide) 50) (by simp -implicitDefEqProofs only [evr, id, seval, Nat.sub_zero, regS, entS, Ent.cs, tupL, evn]; first | done | rfl) (by rintro _ rfl; exact ok_plain rfl) ?_
  rintro r rfl
  simp only [aw_p2, evr, id, seval, List.append_nil, Int.toNat_zero, Nat.sub_self, Nat.sub_zero, regS, entS, Ent.cs, tupL]
  refine wcall_plain (providerC FrA a2 c2 [aw1, aw2] aw_es2 (by decide) 167837697 (by decide) 100) (by simp -implicitDefEqProofs only [evr, id, seval, Nat.sub_zero, regS, entS, Ent.cs, tupL, evn]; first | done | rfl) (by rintro _ rfl; exact ok_plain rfl) ?_
  rintro r rfl
  simp only [aw_p3, ho, aw_s, evr, id, seval, List.append_nil, Int.toNat_zero, Nat.sub_self, Nat.sub_zero, regS, entS, Ent.cs, tupL]
  refine wcall_plain (regValidC FrA a2 c2 [aw1, aw2] aw_es2) (by simp -implicitDefEqProofs only [evr, id, seval, Nat.sub_zero, regS, entS, Ent.cs, tupL, evn]; first | done | rfl) (by rintro _ rfl; exact ok_plain rfl) ?_
  rintro r rfl
  simp only [decide_eq_true aw_ok, evr, id, seval, List.append_nil, Int.toNat_zero, Nat.sub_self, Nat.sub_zero, regS, entS, Ent.cs, tupL]
  (refine hk _ ?_; clear hk k; try show Sat _ _ _ _ _)
  refine Sat.ret ?_
  simp only [Tryz.results6, evr, id, seval, List.append_nil, Int.toNat_zero, Nat.sub_self, Nat.sub_zero, regS, entS, Ent.cs, tupL]
end Go.Proofs.YtepkbbmjbbnhnaaGreatDoor

/- What RegistryLongest asks of the entry that is found (no program in sight). -/
set_option linter.unusedSimpArgs false
set_option linter.unusedVariables false
namespace Go.Proofs.YtepkbbmjbbnhnaaGreatDoor
open Eng
def anyB (a : Nat) (t : Int) (es : List Ent) (i : Nat) : Bool := (es.take i).any (applies a t)
theorem anyB_step {a : Nat} {t : Int} {es : List Ent} {i : Nat} (h : i < es.length) : anyB a t es (i + 1) = (anyB a t es i || applies a t (es.getD i default)) := by
  unfold anyB
  rw [List.take_succ_eq_append_getElem h, List.any_append, getD_lt h]
  simp
theorem anyB_all (a : Nat) (t : Int) (es : List Ent) : anyB a t es es.length = (lkp a t es).isSome := by
  unfold anyB
  rw [List.take_length]
  have h := lkp_best a t es
  cases hb : lkp a t es with
  | none =>
    rw [hb] at h
    rw [Option.isSome_none, List.any_eq_false]
    exact fun e he => by rw [h e he]; simp
  | some x =>
    rw [hb] at h
    rw [Option.isSome_some, List.any_eq_true]
    exact ⟨x, h.1, h.2.1⟩
theorem lkp_longest {a : Nat} {t : Int} {es : List Ent} {i : Nat} (h : i < es.length) (ha : applies a t (es.getD i default) = true) : (lkp a t es).isSome = true ∧ (es.getD i default).len ≤ (optE (lkp a t es)).len := by
  have hB := lkp_best a t es
  have hm : es.getD i default ∈ es := by rw [getD_lt h]; exact List.getElem_mem h
  cases hb : lkp a t es with
  | none => rw [hb] at hB; rw [hB _ hm] at ha; cases ha
  | some x => rw [hb] at hB; exact ⟨rfl, hB.2.2 _ hm ha⟩
theorem lkp_applies {a : Nat} {t : Int} {es : List Ent} (h : (lkp a t es).isSome = true) : applies a t (optE (lkp a t es)) = true ∧ optE (lkp a t es) ∈ es := by
  have hB := lkp_best a t es
  cases hb : lkp a t es with
  | none => rw [hb] at h; cases h
  | some x => rw [hb] at hB; exact ⟨hB.2.1, hB.1⟩
theorem applies_iff {a : Nat} {t : Int} {e : Ent} : applies a t e = true ↔ cont e.pr a = true ∧ e.from_ ≤ t ∧ t < e.to_ := by
  unfold applies
  rw [Bool.and_eq_true, decide_eq_true_eq]
  exact ⟨fun h => ⟨h.2, h.1⟩, fun h => ⟨h.2, h.1⟩⟩
theorem optE_ok {es : List Ent} (h : esOk es) (a : Nat) (t : Int) : eOk (optE (lkp a t es)) := by
  have hB := lkp_best a t es
  cases hb : lkp a t es with
  | none => exact (by decide : (0 : Nat) < 2 ^ 32)
  | some x => rw [hb] at hB; exact h x hB.1
theorem lkV_eq {es : List Ent} (h : RegOk es) (a : Nat) (t : Int) : lkV a t es = lkp a t es := by unfold lkV; rw [if_pos h]
end Go.Proofs.YtepkbbmjbbnhnaaGreatDoor

/- It is proved that the statement RegistrySteps holds for every input: what package registry returns is what the reference returns. No conditions. -/
set_option linter.unusedSimpArgs false
set_option linter.unusedVariables false
namespace Go.Proofs.YtepkbbmjbbnhnaaGreatDoor
open Go.RowKit Eng
theorem ent_eqS (e f : Ent) : aggEq Tryz.prog 31 5 (fun j => [SV.i .u32 (e.addr : Nat), .i .i64 e.len, .i .i64 e.prov, .i .i64 e.from_, .i .i64 e.to_].getD j default) 5 (fun j => [SV.i .u32 (f.addr : Nat), .i .i64 f.len, .i .i64 f.prov, .i .i64 f.from_, .i .i64 f.to_].getD j default) = some (entB e f) := by kernel_rfl
theorem ent_self (e : Ent) : aggEq Tryz.prog 31 5 (fun j => [SV.i .u32 (e.addr : Nat), .i .i64 e.len, .i .i64 e.prov, .i .i64 e.from_, .i .i64 e.to_].getD j default) 5 (fun j => [SV.i .u32 (e.addr : Nat), .i .i64 e.len, .i .i64 e.prov, .i .i64 e.from_, .i .i64 e.to_].getD j default) = some true := by rw [ent_eqS, entB_iff.2 rfl]
theorem ow_eqS (l m : List Owd) (i j : Nat) : aggEq Tryz.prog 51 3 (fun q => owRd l i q) 3 (fun q => owRd m j q) = some ([(l.getD i default).prov == (m.getD j default).prov, (l.getD i default).from_ == (m.getD j default).from_, (l.getD i default).to_ == (m.getD j default).to_].all id) := by kernel_rfl
theorem ow_self (l : List Owd) (i : Nat) : aggEq Tryz.prog 51 3 (fun q => owRd l i q) 3 (fun q => owRd l i q) = some true := by rw [ow_eqS]; simp
theorem iv_eqS (l m : List Ivl) (i j : Nat) : aggEq Tryz.prog 53 2 (fun q => ivRd l i q) 2 (fun q => ivRd m j q) = some ([(l.getD i default).low == (m.getD j default).low, (l.getD i default).high == (m.getD j default).high].all id) := by kernel_rfl
theorem iv_self (l : List Ivl) (i : Nat) : aggEq Tryz.prog 53 2 (fun q => ivRd l i q) 2 (fun q => ivRd l i q) = some true := by rw [iv_eqS]; simp
theorem histL_len (a : Nat) (p : RgP) (h : esOk p.es ∧ p.es.length ≤ 1024) : (histL a p).length ≤ 100000 := by
  unfold histL
  split
  · have h1 := hist_len a p.es (timesL a [p]) ((timesL a [p]).length - 1)
    have h2 := timesL_len a [p] (fun r hr => by rw [List.mem_singleton.1 hr]; exact h)
    simp only [List.length_singleton] at h2
    omega
  · exact Nat.zero_le _
theorem chgL_len (a : Nat) (p q : RgP) (h : esOk p.es ∧ p.es.length ≤ 1024) (h' : esOk q.es ∧ q.es.length ≤ 1024) : (chgL a p q).length ≤ 100000 := by
  unfold chgL
  split
  · have h1 := chg_len a p.es q.es (timesL a [p, q]) ((timesL a [p, q]).length - 1)
    have h2 := timesL_len a [p, q] (fun r hr => by
      rcases List.mem_cons.1 hr with rfl | hr
      · exact h
      · rw [List.mem_singleton.1 hr]; exact h')
    simp only [List.length_cons, List.length_nil] at h2
    omega
  · exact Nat.zero_le _
theorem addV_len (es : List Ent) (g : Ent) : (addV es g).1.length ≤ es.length + 1 := by
  unfold addV
  split
  · exact Nat.zero_le _
  · split
    · exact Nat.zero_le _
    · split
      · exact Nat.zero_le _
      · rename_i h1 _ _
        show (insE es _ g).length ≤ _
        unfold insE
        simp only [List.length_append, List.length_cons, List.length_take, List.length_drop]
        omega
theorem remV_len (es : List Ent) (q : Prf) (t : Int) : (remV es q t).1.length ≤ es.length := by
  unfold remV
  split
  · exact Nat.zero_le _
  · split
    · rename_i h
      rw [delE_len h.1]
      omega
    · exact Nat.zero_le _
theorem slB_bytesS (a : Option Addr) (cap : Nat) (z : List Int) (hz : ∀ n ∈ z, (Lit.int .u8 n).wf = true) : isBytes (slB a cap z) :=
  ⟨a, z.length, cap, _, rfl, fun i hi => ⟨z.getD i 0, by have := bounds_u8 (hz _ (getD_mem (d := 0) hi)); omega, by have := bounds_u8 (hz _ (getD_mem (d := 0) hi)); omega, rfl⟩⟩
set_option maxHeartbeats 4000000 in
set_option maxRecDepth 100000 in
theorem stepsLawC (a : Option Addr) (cap : Nat) (z : List Int) (hz : ∀ n ∈ z, (Lit.int .u8 n).wf = true) (wa : Option Addr) (wc : Nat) (ws : List Ent) (hw : esOk ws) (e f : Ent) (he : eOk e) (hf : eOk f) (ad : Nat) (had : ad < 2 ^ 32) (t : Int) (q : Prf) :
    Contract FrA Tryz.prog 3 [slB a cap z, regS wa wc ws, entS e, entS f, .i .u32 ad, .i .i64 t, prS q] (fun r => r = .b true) := by
  have hb := slB_bytesS a cap z hz
  refine contract_of Tryz.func3 rfl (by kernel_rfl) ?_
  simp only [Tryz.ntmps3, argEnv, regS, entS, prS, prC, Ent.cs]
  (repeat refine Sat.seq ?_)
  (refine Sat.region_k fun k hk => ?_; simp -implicitDefEqProofs only [evr, id, seval, Nat.sub_zero, Option.map_none, ent0, ent1, ent2, ent3, ent4, regS, entS, Ent.cs, tupL, ptr, RgP.s, ow0, ow1, ow2, iv0, iv1, prS, prC, regs0, int_at, lkS, ent_self, evn])
  intro b8 b9 b10 b13
  (refine hk _ ?_; clear hk k; try show Sat _ _ _ _ _)
  (repeat refine Sat.seq ?_)
  (refine Sat.region_k fun k hk => ?_; simp -implicitDefEqProofs only [evr, id, seval, Nat.sub_zero, Option.map_none, ent0, ent1, ent2, ent3, ent4, regS, entS, Ent.cs, tupL, ptr, RgP.s, ow0, ow1, ow2, iv0, iv1, prS, prC, regs0, int_at, lkS, ent_self, evn])
  refine wcall_plain awakeC rfl (by rintro _ rfl; exact ok_plain rfl) ?_
  rintro r rfl
  simp -implicitDefEqProofs only [evr, id, seval, Nat.sub_zero, Option.map_none, ent0, ent1, ent2, ent3, ent4, regS, entS, Ent.cs, tupL, ptr, RgP.s, ow0, ow1, ow2, iv0, iv1, prS, prC, regs0, int_at, lkS, ent_self, evn]
  (refine hk _ ?_; clear hk k; try show Sat _ _ _ _ _)
  (repeat refine Sat.seq ?_)
  refine Sat.cond_b rfl (fun h1 => ?_) (fun h1 => ?_)
  · (repeat refine Sat.seq ?_)
    (refine Sat.region_k fun k hk => ?_; simp -implicitDefEqProofs only [evr, id, seval, Nat.sub_zero, Option.map_none, ent0, ent1, ent2, ent3, ent4, regS, entS, Ent.cs, tupL, ptr, RgP.s, ow0, ow1, ow2, iv0, iv1, prS, prC, regs0, int_at, lkS, ent_self, evn])
    refine wcall_plain awakeC rfl (by rintro _ rfl; exact ok_plain rfl) ?_
    rintro r rfl
    simp -implicitDefEqProofs only [evr, id, seval, Nat.sub_zero, Option.map_none, ent0, ent1, ent2, ent3, ent4, regS, entS, Ent.cs, tupL, ptr, RgP.s, ow0, ow1, ow2, iv0, iv1, prS, prC, regs0, int_at, lkS, ent_self, evn]
    (refine hk _ ?_; clear hk k; try show Sat _ _ _ _ _)
    refine Sat.ret ?_
    simp only [Tryz.results3, evr, id, seval, List.append_nil, Int.toNat_zero, Nat.sub_self, Nat.sub_zero, Option.map_none, ent0, ent1, ent2, ent3, ent4, regS, entS, Ent.cs, tupL, ptr, RgP.s, ow0, ow1, ow2, iv0, iv1, prS, prC, regs0, int_at, lkS, ent_self]
  simp only [decide_eq_false_iff_not] at h1
  have hwl : ws.length ≤ 10 := by omega
  refine Sat.skip ?_
  simp only [thenK]
  (repeat refine Sat.seq ?_)
  (refine Sat.region_k fun k hk => ?_; simp -implicitDefEqProofs only [evr, id, seval, Nat.sub_zero, Option.map_none, ent0, ent1, ent2, ent3, ent4, regS, entS, Ent.cs, tupL, ptr, RgP.s, ow0, ow1, ow2, iv0, iv1, prS, prC, regs0, int_at, lkS, ent_self, evn])
  refine wcall_make (rollC (slB a cap z) hb) ?_
  intro cb
  simp -implicitDefEqProofs only [evr, id, seval, Nat.sub_zero, Option.map_none, ent0, ent1, ent2, ent3, ent4, regS, entS, Ent.cs, tupL, ptr, RgP.s, ow0, ow1, ow2, iv0, iv1, prS, prC, regs0, int_at, lkS, ent_self, evn]
  (refine hk _ ?_; clear hk k; try show Sat _ _ _ _ _)
  refine Sat.settleBox 8 rfl rfl ?_
  refine Sat.settleBox 9 rfl rfl ?_
  refine Sat.settleBox 10 rfl rfl ?_
  refine Sat.settleBox 13 rfl rfl ?_
  refine Sat.switchT (cb := cb) (id := 4) rfl ?_
  (repeat refine Sat.seq ?_)
  (refine Sat.region_k fun k hk => ?_; simp -implicitDefEqProofs only [evr, id, seval, Nat.sub_zero, Option.map_none, ent0, ent1, ent2, ent3, ent4, regS, entS, Ent.cs, tupL, ptr, RgP.s, ow0, ow1, ow2, iv0, iv1, prS, prC, regs0, int_at, lkS, ent_self, evn])
  refine wcall_slice ((diceRegistryC cb 10 (by decide)).codesT) rfl rfl ?_
  rintro r ⟨xa, xc, xs, rfl, hxr, hx, hxl⟩
  simp -implicitDefEqProofs only [evr, id, seval, Nat.sub_zero, Option.map_none, ent0, ent1, ent2, ent3, ent4, regS, entS, Ent.cs, tupL, ptr, RgP.s, ow0, ow1, ow2, iv0, iv1, prS, prC, regs0, int_at, lkS, ent_self, evn]
  refine wcall_slice ((diceRegistryC cb 6 (by decide)).codesT) rfl rfl ?_
  rintro r ⟨ya, yc, ys, rfl, hyr, hy, hyl⟩
  simp -implicitDefEqProofs only [evr, id, seval, Nat.sub_zero, Option.map_none, ent0, ent1, ent2, ent3, ent4, regS, entS, Ent.cs, tupL, ptr, RgP.s, ow0, ow1, ow2, iv0, iv1, prS, prC, regs0, int_at, lkS, ent_self, evn]
  intro b16 b17
  (refine hk _ ?_; clear hk k; try show Sat _ _ _ _ _)
  refine Sat.settleBox 16 rfl rfl ?_
  refine Sat.settleBox 17 rfl rfl ?_
  (repeat refine Sat.seq ?_)
  (refine Sat.region_rows [⟨0, 59, 65536, 1⟩, ⟨0, 60, 256, 1⟩, ⟨0, 61, 32768, 0⟩, ⟨0, 62, 65536, 1⟩, ⟨12, 63, 3458764513820540928, 2⟩, ⟨19, 64, 5476377146882523136, 2⟩, ⟨32, 65, 9223372036854775808, 0⟩, ⟨0, 66, 0, 0⟩] [2, 7, 0, 1, 3] [(4, false), (5, false), (6, false)] [4] (by kernel_rfl) (by kernel_rfl) (fun _ _ h => h) fun k hk => ?_; simp only [List.map_cons, List.map_nil, List.getD_cons_zero, List.getD_cons_succ, btseq_cons, btseq_free, btseq_nil]; simp -implicitDefEqProofs only [evr, id, seval, Nat.sub_zero, Option.map_none, ent0, ent1, ent2, ent3, ent4, regS, entS, Ent.cs, tupL, ptr, RgP.s, ow0, ow1, ow2, iv0, iv1, prS, prC, regs0, int_at, lkS, ent_self, evn])
  refine wcall_slice ((oddRegistryC cb xa xc xs hx (by omega)).codesT) rfl (by simp -implicitDefEqProofs only [evr, id, seval, Nat.sub_zero, Option.map_none, ent0, ent1, ent2, ent3, ent4, regS, entS, Ent.cs, tupL, ptr, RgP.s, ow0, ow1, ow2, iv0, iv1, prS, prC, regs0, int_at, lkS, ent_self, evn]; first | done | rfl) ?_
  rintro r ⟨oa, oc, os, rfl, hos, hol⟩
  simp -implicitDefEqProofs only [evr, id, seval, Nat.sub_zero, Option.map_none, ent0, ent1, ent2, ent3, ent4, regS, entS, Ent.cs, tupL, ptr, RgP.s, ow0, ow1, ow2, iv0, iv1, prS, prC, regs0, int_at, lkS, ent_self, evn]
  intro bl
  (refine hk _ ?_; clear hk k; try show Sat _ _ _ _ _)
  have hrs : ∃ rs : List RgP, rs = [⟨xa, xc, xs⟩, ⟨wa, wc, ws⟩, ⟨oa, oc, os⟩] := ⟨_, rfl⟩
  obtain ⟨rs, hrs⟩ := hrs
  have hrok : ∀ r ∈ rs, esOk r.es ∧ r.es.length ≤ 11 := by
    rw [hrs]
    intro r hr
    simp only [List.mem_cons, List.mem_singleton, List.not_mem_nil, or_false] at hr
    rcases hr with rfl | rfl | rfl
    · exact ⟨hx, by show xs.length ≤ 11; omega⟩
    · exact ⟨hw, by show ws.length ≤ 11; omega⟩
    · exact ⟨hos, by show os.length ≤ 11; omega⟩
  (repeat refine Sat.seq ?_)
  refine Sat.block ?_
  refine Sat.loop (ι := Nat) (fun i => ⟨277, [(65, .i .i64 i), (63, .os 2 (some ⟨bl, 0, none⟩) 3 3), (64, .i .i64 3), (17, .el ⟨b17, 0, none⟩ 1 fun j => [SV.sl ya ys.length yc 5 (entRd ys)].getD j default), (13, .el ⟨b13, 0, none⟩ 2 fun j => [SV.i .u32 q.addr, SV.i .i64 q.len].getD j default), (10, .el ⟨b10, 0, none⟩ 5 fun j => (Ent.cs f).getD j default), (9, .el ⟨b9, 0, none⟩ 5 fun j => (Ent.cs e).getD j default), (15, .v (.pointer (some ⟨cb, 0, none⟩))), (14, .ff), (4, .i .u32 ad), (5, .i .i64 t)], [.gone, .gone, .row (some ⟨bl, 0, none⟩) 25 3 3 1 (regsRd rs)]⟩) (fun i => i ≤ 3) (fun i => 3 - i) 0 (Nat.zero_le _) (by
    simp only [Ent.cs]
    simp -implicitDefEqProofs only [evr, id, seval, Nat.sub_zero, Option.map_none, ent0, ent1, ent2, ent3, ent4, regS, entS, Ent.cs, tupL, ptr, RgP.s, ow0, ow1, ow2, iv0, iv1, prS, prC, regs0, int_at, lkS, ent_self, evl, evn]
    rw [hrs]
    intro p q hp hq
    obtain rfl : q = 0 := by omega
    rcases (show p = 0 ∨ p = 1 ∨ p = 2 by omega) with rfl | rfl | rfl <;> rfl) ?_
  rintro i hi
  simp only [Ent.cs]
  (repeat refine Sat.seq ?_)
  (refine Sat.region_k fun k hk => ?_; simp -implicitDefEqProofs only [evr, id, seval, Nat.sub_zero, Option.map_none, ent0, ent1, ent2, ent3, ent4, regS, entS, Ent.cs, tupL, ptr, RgP.s, ow0, ow1, ow2, iv0, iv1, prS, prC, regs0, int_at, lkS, ent_self, evn]; refine hk _ ?_; clear hk k; try show Sat _ _ _ _ _)
  (repeat refine Sat.seq ?_)
  refine Sat.cond_b rfl (fun h2 => ?_) (fun h2 => ?_)
  rotate_left
  · simp only [decide_eq_false_iff_not] at h2
    obtain rfl : i = 3 := by omega
    refine Sat.exit ?_
    simp only [thenK, blockK, reduceIte]
    (repeat refine Sat.seq ?_)
    (refine Sat.region_k fun k hk => ?_; simp -implicitDefEqProofs only [evr, id, seval, Nat.sub_zero, Option.map_none, ent0, ent1, ent2, ent3, ent4, regS, entS, Ent.cs, tupL, ptr, RgP.s, ow0, ow1, ow2, iv0, iv1, prS, prC, regs0, int_at, lkS, ent_self, evn]; refine hk _ ?_; clear hk k; try show Sat _ _ _ _ _)
    refine Sat.ret ?_
    simp only [Tryz.results3, evr, id, seval, List.append_nil, Int.toNat_zero, Nat.sub_self, Nat.sub_zero, Option.map_none, ent0, ent1, ent2, ent3, ent4, regS, entS, Ent.cs, tupL, ptr, RgP.s, ow0, ow1, ow2, iv0, iv1, prS, prC, regs0, int_at, lkS, ent_self]
  simp only [decide_eq_true_eq] at h2
  have hlt : i < 3 := by omega
  have hrl : rs.length = 3 := by rw [hrs]; rfl
  have hrg := hrok (rs.getD i default) (by
    have : rs.getD i default = rs[i]'(by omega) := by simp [List.getD, show i < rs.length by omega]
    rw [this]; exact List.getElem_mem _)
  have e1 : IntKind.i64.wrap ((i : Int) + 1) = ((i + 1 : Nat) : Int) := by rw [w64 (by omega)]; omega
  refine Sat.skip ?_
  simp only [thenK]
  (repeat refine Sat.seq ?_)
  refine Sat.block ?_
  (repeat refine Sat.seq ?_)
  (refine Sat.region_k fun k hk => ?_; simp -implicitDefEqProofs only [evr, id, seval, Nat.sub_zero, Option.map_none, ent0, ent1, ent2, ent3, ent4, regS, entS, Ent.cs, tupL, ptr, RgP.s, ow0, ow1, ow2, iv0, iv1, prS, prC, regs0, int_at, lkS, ent_self, evn])
  refine ⟨by omega, by omega, fun b19 => ?_⟩
  (refine hk _ ?_; clear hk k; try show Sat _ _ _ _ _)
  generalize rs.getD i default = rg at hrg ⊢
  obtain ⟨hg, hgl⟩ := hrg
  refine Sat.settleBox 19 rfl rfl ?_
  (repeat refine Sat.seq ?_)
  (refine Sat.region_rows [⟨0, 70, 524288, 1⟩, ⟨1, 71, 590295810358705651712, 2⟩, ⟨0, 72, 524288, 1⟩, ⟨6, 73, 2361183241434822606848, 2⟩, ⟨10, 74, 5902958103587056517120, 0⟩] [0, 2] [(1, false), (3, false), (4, false)] [1] (by kernel_rfl) (by kernel_rfl) (fun _ _ h => h) fun k hk => ?_; simp only [List.map_cons, List.map_nil, List.getD_cons_zero, List.getD_cons_succ, btseq_cons, btseq_free, btseq_nil]; simp -implicitDefEqProofs only [evr, id, seval, Nat.sub_zero, Option.map_none, ent0, ent1, ent2, ent3, ent4, regS, entS, Ent.cs, tupL, ptr, RgP.s, ow0, ow1, ow2, iv0, iv1, prS, prC, regs0, int_at, lkS, ent_self, evn])
  refine wcall_plain (regValidC _ rg.ad rg.cap rg.es hg) (by first | done | rfl) (by rintro _ rfl; exact ok_plain rfl) ?_
  rintro r rfl
  simp -implicitDefEqProofs only [evr, id, seval, Nat.sub_zero, Option.map_none, ent0, ent1, ent2, ent3, ent4, regS, entS, Ent.cs, tupL, ptr, RgP.s, ow0, ow1, ow2, iv0, iv1, prS, prC, regs0, int_at, lkS, ent_self, evn]
  refine wcall_plain (refRegValidC _ rg.ad rg.cap rg.es hg) (by first | done | rfl) (by rintro _ rfl; exact ok_plain rfl) ?_
  rintro r rfl
  simp -implicitDefEqProofs only [evr, id, seval, Nat.sub_zero, Option.map_none, ent0, ent1, ent2, ent3, ent4, regS, entS, Ent.cs, tupL, ptr, RgP.s, ow0, ow1, ow2, iv0, iv1, prS, prC, regs0, int_at, lkS, ent_self, bne_self_eq_false, evn]
  (refine hk _ ?_; clear hk k; try show Sat _ _ _ _ _)
  (repeat refine Sat.seq ?_)
  refine Sat.cond_b rfl (fun h => absurd h (by decide)) (fun _ => ?_)
  refine Sat.skip ?_
  simp only [thenK]
  (repeat refine Sat.seq ?_)
  (refine Sat.region_k fun k hk => ?_; simp -implicitDefEqProofs only [evr, id, seval, Nat.sub_zero, Option.map_none, ent0, ent1, ent2, ent3, ent4, regS, entS, Ent.cs, tupL, ptr, RgP.s, ow0, ow1, ow2, iv0, iv1, prS, prC, regs0, int_at, lkS, ent_self, evn])
  refine wcall_plain ((addressC cb).codesT) rfl (by rintro _ ⟨x, rfl, _⟩; exact ok_plain rfl) ?_
  rintro r ⟨x, rfl, hx13⟩
  simp -implicitDefEqProofs only [evr, id, seval, Nat.sub_zero, Option.map_none, ent0, ent1, ent2, ent3, ent4, regS, entS, Ent.cs, tupL, ptr, RgP.s, ow0, ow1, ow2, iv0, iv1, prS, prC, regs0, int_at, lkS, ent_self, evn]
  intro bA
  (refine hk _ ?_; clear hk k; try show Sat _ _ _ _ _)
  obtain ⟨ns, has⟩ : ∃ ns : List Nat, ns = [ad, 167772160 + x] := ⟨_, rfl⟩
  have hasl : ns.length = 2 := by rw [has]; rfl
  have hasb : ∀ k, ns.getD k 0 < 2 ^ 32 := fun k => by
    rw [has]
    match k with
    | 0 => exact had
    | 1 => show 167772160 + x < 2 ^ 32; omega
    | k + 2 => show 0 < 2 ^ 32; decide
  (repeat refine Sat.seq ?_)
  refine Sat.join2 (ι := Unit) (fun _ => ⟨277, [(19, .el ⟨b19, 0, none⟩ 1 fun j => [SV.sl rg.ad rg.es.length rg.cap 5 (entRd rg.es)].getD j default), (65, .i .i64 i), (63, .os 2 (some ⟨bl, 0, none⟩) 3 3), (64, .i .i64 3), (17, .el ⟨b17, 0, none⟩ 1 fun j => [SV.sl ya ys.length yc 5 (entRd ys)].getD j default), (13, .el ⟨b13, 0, none⟩ 2 fun j => [SV.i .u32 q.addr, SV.i .i64 q.len].getD j default), (10, .el ⟨b10, 0, none⟩ 5 fun j => (Ent.cs f).getD j default), (9, .el ⟨b9, 0, none⟩ 5 fun j => (Ent.cs e).getD j default), (15, .v (.pointer (some ⟨cb, 0, none⟩))), (14, .ff), (4, .i .u32 ad), (5, .i .i64 t)], [.gone, .gone, .row (some ⟨bl, 0, none⟩) 25 3 3 1 (regsRd rs), .gone]⟩) (fun _ => True) (fun hrest => ?_) ?_
  · refine Sat.block ?_
    refine Sat.loop (ι := Nat) (fun n2 => ⟨277, [(79, .i .i64 n2), (77, .os 4 (some ⟨bA, 0, none⟩) 2 2), (78, .i .i64 2), (19, .el ⟨b19, 0, none⟩ 1 fun j => [SV.sl rg.ad rg.es.length rg.cap 5 (entRd rg.es)].getD j default), (65, .i .i64 i), (63, .os 2 (some ⟨bl, 0, none⟩) 3 3), (64, .i .i64 3), (17, .el ⟨b17, 0, none⟩ 1 fun j => [SV.sl ya ys.length yc 5 (entRd ys)].getD j default), (13, .el ⟨b13, 0, none⟩ 2 fun j => [SV.i .u32 q.addr, SV.i .i64 q.len].getD j default), (10, .el ⟨b10, 0, none⟩ 5 fun j => (Ent.cs f).getD j default), (9, .el ⟨b9, 0, none⟩ 5 fun j => (Ent.cs e).getD j default), (15, .v (.pointer (some ⟨cb, 0, none⟩))), (14, .ff), (4, .i .u32 ad), (5, .i .i64 t)], [.gone, .gone, .row (some ⟨bl, 0, none⟩) 25 3 3 1 (regsRd rs), .gone, .row (some ⟨bA, 0, none⟩) 27 2 2 1 (fun i _ => .i .u32 (ns.getD i 0 : Nat))]⟩) (fun n2 => n2 ≤ 2) (fun n2 => 2 - n2) 0 (Nat.zero_le _) (by
      simp only [Ent.cs]
      simp -implicitDefEqProofs only [evr, id, seval, Nat.sub_zero, Option.map_none, ent0, ent1, ent2, ent3, ent4, regS, entS, Ent.cs, tupL, ptr, RgP.s, ow0, ow1, ow2, iv0, iv1, prS, prC, regs0, int_at, lkS, ent_self, evl, evn]
      rw [has]
      intro p q hp hq
      obtain rfl : q = 0 := by omega
      rcases (show p = 0 ∨ p = 1 by omega) with rfl | rfl <;> rfl) ?_
    rintro n2 hn2
    simp only [Ent.cs]
    (repeat refine Sat.seq ?_)
    (refine Sat.region_k fun k hk => ?_; simp -implicitDefEqProofs only [evr, id, seval, Nat.sub_zero, Option.map_none, ent0, ent1, ent2, ent3, ent4, regS, entS, Ent.cs, tupL, ptr, RgP.s, ow0, ow1, ow2, iv0, iv1, prS, prC, regs0, int_at, lkS, ent_self, evn]; refine hk _ ?_; clear hk k; try show Sat _ _ _ _ _)
    (repeat refine Sat.seq ?_)
    refine Sat.cond_b rfl (fun h3 => ?_) (fun h3 => ?_)
    rotate_left
    · refine Sat.exit ?_
      simp only [thenK, blockK, reduceIte]
      refine (hrest () trivial).le ?_
      simp only [Ent.cs]
      simp -implicitDefEqProofs only [evr, id, seval, Nat.sub_zero, Option.map_none, ent0, ent1, ent2, ent3, ent4, regS, entS, Ent.cs, tupL, ptr, RgP.s, ow0, ow1, ow2, iv0, iv1, prS, prC, regs0, int_at, lkS, ent_self, evl, evn]
    simp only [decide_eq_true_eq] at h3
    have hlt3 : n2 < 2 := by omega
    have e3 : IntKind.i64.wrap ((n2 : Int) + 1) = ((n2 + 1 : Nat) : Int) := by rw [w64 (by omega)]; omega
    refine Sat.skip ?_
    simp only [thenK]
    (repeat refine Sat.seq ?_)
    refine Sat.block ?_
    (repeat refine Sat.seq ?_)
    (refine Sat.region_k fun k hk => ?_; simp -implicitDefEqProofs only [evr, id, seval, Nat.sub_zero, Option.map_none, ent0, ent1, ent2, ent3, ent4, regS, entS, Ent.cs, tupL, ptr, RgP.s, ow0, ow1, ow2, iv0, iv1, prS, prC, regs0, int_at, lkS, ent_self, evn])
    refine ⟨by omega, by omega, ?_⟩
    (refine hk _ ?_; clear hk k; try show Sat _ _ _ _ _)
    have hb32 := hasb n2
    generalize ns.getD n2 0 = ba at hb32 ⊢
    (repeat refine Sat.seq ?_)
    (refine Sat.region_k fun k hk => ?_; simp -implicitDefEqProofs only [evr, id, seval, Nat.sub_zero, Option.map_none, ent0, ent1, ent2, ent3, ent4, regS, entS, Ent.cs, tupL, ptr, RgP.s, ow0, ow1, ow2, iv0, iv1, prS, prC, regs0, int_at, lkS, ent_self, evn])
    refine wcall_plain ((nextC cb 700 (by decide) (by decide)).codesT) rfl (by rintro _ ⟨x, rfl, _⟩; exact ok_plain rfl) ?_
    rintro r ⟨y, rfl, hy0, hy1⟩
    simp -implicitDefEqProofs only [evr, id, seval, Nat.sub_zero, Option.map_none, ent0, ent1, ent2, ent3, ent4, regS, entS, Ent.cs, tupL, ptr, RgP.s, ow0, ow1, ow2, iv0, iv1, prS, prC, regs0, int_at, lkS, ent_self, evn]
    intro bU
    (refine hk _ ?_; clear hk k; try show Sat _ _ _ _ _)
    obtain ⟨us, hus⟩ : ∃ us : List Int, us = [t, y, 0, 1125899906842623] := ⟨_, rfl⟩
    (repeat refine Sat.seq ?_)
    refine Sat.join2 (ι := Unit) (fun _ => ⟨277, [(21, .i .u32 (ba : Nat)), (79, .i .i64 n2), (77, .os 4 (some ⟨bA, 0, none⟩) 2 2), (78, .i .i64 2), (19, .el ⟨b19, 0, none⟩ 1 fun j => [SV.sl rg.ad rg.es.length rg.cap 5 (entRd rg.es)].getD j default), (65, .i .i64 i), (63, .os 2 (some ⟨bl, 0, none⟩) 3 3), (64, .i .i64 3), (17, .el ⟨b17, 0, none⟩ 1 fun j => [SV.sl ya ys.length yc 5 (entRd ys)].getD j default), (13, .el ⟨b13, 0, none⟩ 2 fun j => [SV.i .u32 q.addr, SV.i .i64 q.len].getD j default), (10, .el ⟨b10, 0, none⟩ 5 fun j => (Ent.cs f).getD j default), (9, .el ⟨b9, 0, none⟩ 5 fun j => (Ent.cs e).getD j default), (15, .v (.pointer (some ⟨cb, 0, none⟩))), (14, .ff), (4, .i .u32 ad), (5, .i .i64 t)], [.gone, .gone, .row (some ⟨bl, 0, none⟩) 25 3 3 1 (regsRd rs), .gone, .row (some ⟨bA, 0, none⟩) 27 2 2 1 (fun i _ => .i .u32 (ns.getD i 0 : Nat))]⟩) (fun _ => True) (fun hrest2 => ?_) ?_
    · refine Sat.block ?_
      refine Sat.loop (ι := Nat) (fun m => ⟨277, [(88, .i .i64 m), (86, .os 5 (some ⟨bU, 0, none⟩) 4 4), (87, .i .i64 4), (21, .i .u32 (ba : Nat)), (79, .i .i64 n2), (77, .os 4 (some ⟨bA, 0, none⟩) 2 2), (78, .i .i64 2), (19, .el ⟨b19, 0, none⟩ 1 fun j => [SV.sl rg.ad rg.es.length rg.cap 5 (entRd rg.es)].getD j default), (65, .i .i64 i), (63, .os 2 (some ⟨bl, 0, none⟩) 3 3), (64, .i .i64 3), (17, .el ⟨b17, 0, none⟩ 1 fun j => [SV.sl ya ys.length yc 5 (entRd ys)].getD j default), (13, .el ⟨b13, 0, none⟩ 2 fun j => [SV.i .u32 q.addr, SV.i .i64 q.len].getD j default), (10, .el ⟨b10, 0, none⟩ 5 fun j => (Ent.cs f).getD j default), (9, .el ⟨b9, 0, none⟩ 5 fun j => (Ent.cs e).getD j default), (15, .v (.pointer (some ⟨cb, 0, none⟩))), (14, .ff), (4, .i .u32 ad), (5, .i .i64 t)], [.gone, .gone, .row (some ⟨bl, 0, none⟩) 25 3 3 1 (regsRd rs), .gone, .row (some ⟨bA, 0, none⟩) 27 2 2 1 (fun i _ => .i .u32 (ns.getD i 0 : Nat)), .row (some ⟨bU, 0, none⟩) 3 4 4 1 (fun i _ => .i .i64 (us.getD i 0))]⟩) (fun m => m ≤ 4) (fun m => 4 - m) 0 (Nat.zero_le _) (by
        simp only [Ent.cs]
        simp -implicitDefEqProofs only [evr, id, seval, Nat.sub_zero, Option.map_none, ent0, ent1, ent2, ent3, ent4, regS, entS, Ent.cs, tupL, ptr, RgP.s, ow0, ow1, ow2, iv0, iv1, prS, prC, regs0, int_at, lkS, ent_self, evl, evn]
        rw [hus]
        intro p q hp hq
        obtain rfl : q = 0 := by omega
        rcases (show p = 0 ∨ p = 1 ∨ p = 2 ∨ p = 3 by omega) with rfl | rfl | rfl | rfl <;> rfl) ?_
      rintro m hm
      simp only [Ent.cs]
      (repeat refine Sat.seq ?_)
      (refine Sat.region_k fun k hk => ?_; simp -implicitDefEqProofs only [evr, id, seval, Nat.sub_zero, Option.map_none, ent0, ent1, ent2, ent3, ent4, regS, entS, Ent.cs, tupL, ptr, RgP.s, ow0, ow1, ow2, iv0, iv1, prS, prC, regs0, int_at, lkS, ent_self, evn]; refine hk _ ?_; clear hk k; try show Sat _ _ _ _ _)
      (repeat refine Sat.seq ?_)
      refine Sat.cond_b rfl (fun h4 => ?_) (fun h4 => ?_)
      rotate_left
      · refine Sat.exit ?_
        simp only [thenK, blockK, reduceIte]
        refine (hrest2 () trivial).le ?_
        simp only [Ent.cs]
        simp -implicitDefEqProofs only [evr, id, seval, Nat.sub_zero, Option.map_none, ent0, ent1, ent2, ent3, ent4, regS, entS, Ent.cs, tupL, ptr, RgP.s, ow0, ow1, ow2, iv0, iv1, prS, prC, regs0, int_at, lkS, ent_self, evl, evn]
      simp only [decide_eq_true_eq] at h4
      have e5 : IntKind.i64.wrap ((m : Int) + 1) = ((m + 1 : Nat) : Int) := by rw [w64 (by omega)]; omega
      refine Sat.skip ?_
      simp only [thenK]
      (repeat refine Sat.seq ?_)
      refine Sat.block ?_
      (repeat refine Sat.seq ?_)
      (refine Sat.region_k fun k hk => ?_; simp -implicitDefEqProofs only [evr, id, seval, Nat.sub_zero, Option.map_none, ent0, ent1, ent2, ent3, ent4, regS, entS, Ent.cs, tupL, ptr, RgP.s, ow0, ow1, ow2, iv0, iv1, prS, prC, regs0, int_at, lkS, ent_self, evn])
      refine ⟨by omega, by omega, ?_⟩
      (refine hk _ ?_; clear hk k; try show Sat _ _ _ _ _)
      generalize us.getD m 0 = u
      (repeat refine Sat.seq ?_)
      (refine Sat.region_k fun k hk => ?_; simp -implicitDefEqProofs only [evr, id, seval, Nat.sub_zero, Option.map_none, ent0, ent1, ent2, ent3, ent4, regS, entS, Ent.cs, tupL, ptr, RgP.s, ow0, ow1, ow2, iv0, iv1, prS, prC, regs0, int_at, lkS, ent_self, evn])
      refine wcall_plain (lookupC _ rg.ad rg.cap rg.es hg (by omega) ba hb32 u) (by first | done | rfl) (by rintro _ rfl; exact lkS_ok _) ?_
      rintro r rfl
      simp -implicitDefEqProofs only [evr, id, seval, Nat.sub_zero, Option.map_none, ent0, ent1, ent2, ent3, ent4, regS, entS, Ent.cs, tupL, ptr, RgP.s, ow0, ow1, ow2, iv0, iv1, prS, prC, regs0, int_at, lkS, ent_self, evn]
      intro b24
      (refine hk _ ?_; clear hk k; try show Sat _ _ _ _ _)
      (repeat refine Sat.seq ?_)
      (refine Sat.region_k fun k hk => ?_; simp -implicitDefEqProofs only [evr, id, seval, Nat.sub_zero, Option.map_none, ent0, ent1, ent2, ent3, ent4, regS, entS, Ent.cs, tupL, ptr, RgP.s, ow0, ow1, ow2, iv0, iv1, prS, prC, regs0, int_at, lkS, ent_self, evn])
      refine wcall_plain (refLookupC _ rg.ad rg.cap rg.es hg (by omega) ba hb32 u) (by first | done | rfl) (by rintro _ rfl; exact lkS_ok _) ?_
      rintro r rfl
      simp -implicitDefEqProofs only [evr, id, seval, Nat.sub_zero, Option.map_none, ent0, ent1, ent2, ent3, ent4, regS, entS, Ent.cs, tupL, ptr, RgP.s, ow0, ow1, ow2, iv0, iv1, prS, prC, regs0, int_at, lkS, ent_self, evn]
      intro b26
      (refine hk _ ?_; clear hk k; try show Sat _ _ _ _ _)
      (repeat refine Sat.seq ?_)
      refine Sat.region_qk (by kernel_rfl) (by kernel_rfl) fun k hk => ?_
      simp -implicitDefEqProofs only [evr, id, seval, Nat.sub_zero, Option.map_none, ent0, ent1, ent2, ent3, ent4, regS, entS, Ent.cs, tupL, ptr, RgP.s, ow0, ow1, ow2, iv0, iv1, prS, prC, regs0, int_at, lkS, ent_self, ent_self, bne_self_eq_false, Bool.not_true, Bool.not_false, evn]
      refine qcall (providerC Frm.nil rg.ad rg.cap rg.es hg (by omega) ba hb32 u) (by first | done | rfl) (ok_plain rfl) ?_
      simp -implicitDefEqProofs only [evr, id, seval, Nat.sub_zero, Option.map_none, ent0, ent1, ent2, ent3, ent4, regS, entS, Ent.cs, tupL, ptr, RgP.s, ow0, ow1, ow2, iv0, iv1, prS, prC, regs0, int_at, lkS, ent_self, evn]
      refine qcall (refProviderC Frm.nil rg.ad rg.cap rg.es hg (by omega) ba hb32 u) (by first | done | rfl) (ok_plain rfl) ?_
      simp -implicitDefEqProofs only [evr, id, seval, Nat.sub_zero, Option.map_none, ent0, ent1, ent2, ent3, ent4, regS, entS, Ent.cs, tupL, ptr, RgP.s, ow0, ow1, ow2, iv0, iv1, prS, prC, regs0, int_at, lkS, ent_self, bne_self_eq_false, evn]
      (refine hk _ ?_; clear hk k; try show Sat _ _ _ _ _)
      (repeat refine Sat.seq ?_)
      refine Sat.cond_b rfl (fun h => absurd h (by decide)) (fun _ => ?_)
      refine Sat.skip ?_
      simp only [thenK, blockK, reduceIte]
      refine Sat.region_k fun k hk => ?_
      simp -implicitDefEqProofs only [evr, id, seval, Nat.sub_zero, Option.map_none, ent0, ent1, ent2, ent3, ent4, regS, entS, Ent.cs, tupL, ptr, RgP.s, ow0, ow1, ow2, iv0, iv1, prS, prC, regs0, int_at, lkS, ent_self, e5, evn]
      refine hk _ ?_
      simp only [thenK, blockK]
      refine ⟨m + 1, by omega, by omega, ?_⟩
      (try simp only [Ent.cs])
      simp -implicitDefEqProofs only [evr, id, seval, Nat.sub_zero, Option.map_none, ent0, ent1, ent2, ent3, ent4, regS, entS, Ent.cs, tupL, ptr, RgP.s, ow0, ow1, ow2, iv0, iv1, prS, prC, regs0, int_at, lkS, ent_self, evl, evn]
    rintro ⟨⟩ -
    (repeat refine Sat.seq ?_)
    (refine Sat.region_rows [⟨0, 127, 524288, 1⟩, ⟨0, 128, 2097152, 0⟩, ⟨3, 129, 255211775190703847597530955573826158592, 2⟩, ⟨0, 130, 524288, 1⟩, ⟨0, 131, 2097152, 0⟩, ⟨28, 132, 2041694201525630780780247644590609268736, 2⟩, ⟨39, 29, 340282366920938463463374607431768211456, 0⟩, ⟨127, 30, 2722258935367507707706996859454145691648, 0⟩] [1, 4, 0, 3] [(2, false), (5, false), (6, false), (7, false)] [2] (by kernel_rfl) (by kernel_rfl) (fun _ _ h => h) fun k hk => ?_; simp only [List.map_cons, List.map_nil, List.getD_cons_zero, List.getD_cons_succ, btseq_cons, btseq_free, btseq_nil]; simp -implicitDefEqProofs only [evr, id, seval, Nat.sub_zero, Option.map_none, ent0, ent1, ent2, ent3, ent4, regS, entS, Ent.cs, tupL, ptr, RgP.s, ow0, ow1, ow2, iv0, iv1, prS, prC, regs0, int_at, lkS, ent_self, evn])
    refine wcall_slice (historyC _ rg hg (by omega) ba hb32) rfl (by simp -implicitDefEqProofs only [evr, id, seval, Nat.sub_zero, Option.map_none, ent0, ent1, ent2, ent3, ent4, regS, entS, Ent.cs, tupL, ptr, RgP.s, ow0, ow1, ow2, iv0, iv1, prS, prC, regs0, int_at, lkS, ent_self, evn]; first | done | rfl) ?_
    rintro r ⟨a28, c28, rfl⟩
    simp -implicitDefEqProofs only [evr, id, seval, Nat.sub_zero, Option.map_none, ent0, ent1, ent2, ent3, ent4, regS, entS, Ent.cs, tupL, ptr, RgP.s, ow0, ow1, ow2, iv0, iv1, prS, prC, regs0, int_at, lkS, ent_self, evn]
    refine wcall_slice (refHistoryC _ rg hg (by omega) ba hb32) rfl (by simp -implicitDefEqProofs only [evr, id, seval, Nat.sub_zero, Option.map_none, ent0, ent1, ent2, ent3, ent4, regS, entS, Ent.cs, tupL, ptr, RgP.s, ow0, ow1, ow2, iv0, iv1, prS, prC, regs0, int_at, lkS, ent_self, evn]; first | done | rfl) ?_
    rintro r ⟨a29, c29, rfl⟩
    simp -implicitDefEqProofs only [evr, id, seval, Nat.sub_zero, Option.map_none, ent0, ent1, ent2, ent3, ent4, regS, entS, Ent.cs, tupL, ptr, RgP.s, ow0, ow1, ow2, iv0, iv1, prS, prC, regs0, int_at, lkS, ent_self, evn]
    (refine hk _ ?_; clear hk k; try show Sat _ _ _ _ _)
    (repeat refine Sat.seq ?_)
    (refine Sat.region_rows [⟨0, 133, 524288, 1⟩, ⟨0, 134, 131072, 1⟩, ⟨0, 135, 2097152, 0⟩, ⟨7, 136, 38111625095145107907897956032358039683072, 2⟩, ⟨0, 137, 524288, 1⟩, ⟨0, 138, 131072, 1⟩, ⟨0, 139, 2097152, 0⟩, ⟨120, 140, 609786001522321726526367296517728634929152, 2⟩, ⟨143, 31, 43556142965880123323311949751266331066368, 0⟩, ⟨511, 32, 696898287454081973172991196020261297061888, 0⟩] [2, 6, 0, 1, 4, 5] [(3, false), (7, false), (8, false), (9, false)] [3] (by kernel_rfl) (by kernel_rfl) (fun _ _ h => h) fun k hk => ?_; simp only [List.map_cons, List.map_nil, List.getD_cons_zero, List.getD_cons_succ, btseq_cons, btseq_free, btseq_nil]; simp -implicitDefEqProofs only [evr, id, seval, Nat.sub_zero, Option.map_none, ent0, ent1, ent2, ent3, ent4, regS, entS, Ent.cs, tupL, ptr, RgP.s, ow0, ow1, ow2, iv0, iv1, prS, prC, regs0, int_at, lkS, ent_self, evn])
    refine wcall_slice (changedC _ rg ⟨ya, yc, ys⟩ hg (by omega) hy (by show ys.length ≤ 1000000; omega) ba hb32) rfl (by simp -implicitDefEqProofs only [evr, id, seval, Nat.sub_zero, Option.map_none, ent0, ent1, ent2, ent3, ent4, regS, entS, Ent.cs, tupL, ptr, RgP.s, ow0, ow1, ow2, iv0, iv1, prS, prC, regs0, int_at, lkS, ent_self, evn]; first | done | rfl) ?_
    rintro r ⟨a30, c30, rfl⟩
    simp -implicitDefEqProofs only [evr, id, seval, Nat.sub_zero, Option.map_none, ent0, ent1, ent2, ent3, ent4, regS, entS, Ent.cs, tupL, ptr, RgP.s, ow0, ow1, ow2, iv0, iv1, prS, prC, regs0, int_at, lkS, ent_self, evn]
    refine wcall_slice (refChangedC _ rg ⟨ya, yc, ys⟩ hg (by omega) hy (by show ys.length ≤ 2000; omega) ba hb32) rfl (by simp -implicitDefEqProofs only [evr, id, seval, Nat.sub_zero, Option.map_none, ent0, ent1, ent2, ent3, ent4, regS, entS, Ent.cs, tupL, ptr, RgP.s, ow0, ow1, ow2, iv0, iv1, prS, prC, regs0, int_at, lkS, ent_self, evn]; first | done | rfl) ?_
    rintro r ⟨a31, c31, rfl⟩
    simp -implicitDefEqProofs only [evr, id, seval, Nat.sub_zero, Option.map_none, ent0, ent1, ent2, ent3, ent4, regS, entS, Ent.cs, tupL, ptr, RgP.s, ow0, ow1, ow2, iv0, iv1, prS, prC, regs0, int_at, lkS, ent_self, evn]
    (refine hk _ ?_; clear hk k; try show Sat _ _ _ _ _)
    have hhl := histL_len ba rg ⟨hg, by omega⟩
    have hcl := chgL_len ba rg ⟨ya, yc, ys⟩ ⟨hg, by omega⟩ ⟨hy, by show ys.length ≤ 1024; omega⟩
    generalize histL ba rg = hs at *
    generalize chgL ba rg ⟨ya, yc, ys⟩ = ch at *
    (repeat refine Sat.seq ?_)
    (refine Sat.region_k fun k hk => ?_; simp -implicitDefEqProofs only [evr, id, seval, Nat.sub_zero, Option.map_none, ent0, ent1, ent2, ent3, ent4, regS, entS, Ent.cs, tupL, ptr, RgP.s, ow0, ow1, ow2, iv0, iv1, prS, prC, regs0, int_at, lkS, ent_self, evn])
    (refine hk _ ?_; clear hk k; try show Sat _ _ _ _ _)
    (repeat refine Sat.seq ?_)
    refine Sat.cond_b rfl (fun h => absurd h (by decide)) (fun _ => ?_)
    refine Sat.skip ?_
    simp only [thenK]
    (repeat refine Sat.seq ?_)
    (refine Sat.region_k fun k hk => ?_; simp -implicitDefEqProofs only [evr, id, seval, Nat.sub_zero, Option.map_none, ent0, ent1, ent2, ent3, ent4, regS, entS, Ent.cs, tupL, ptr, RgP.s, ow0, ow1, ow2, iv0, iv1, prS, prC, regs0, int_at, lkS, ent_self, evn]; refine hk _ ?_; clear hk k; try show Sat _ _ _ _ _)
    (repeat refine Sat.seq ?_)
    refine Sat.join2 (ι := Unit) (fun _ => ⟨277, [(28, .sl a28 hs.length c28 3 (owRd hs)), (29, .sl a29 hs.length c29 3 (owRd hs)), (30, .sl a30 ch.length c30 2 (ivRd ch)), (31, .sl a31 ch.length c31 2 (ivRd ch)), (21, .i .u32 (ba : Nat)), (79, .i .i64 n2), (77, .os 4 (some ⟨bA, 0, none⟩) 2 2), (78, .i .i64 2), (19, .el ⟨b19, 0, none⟩ 1 fun j => [SV.sl rg.ad rg.es.length rg.cap 5 (entRd rg.es)].getD j default), (65, .i .i64 i), (63, .os 2 (some ⟨bl, 0, none⟩) 3 3), (64, .i .i64 3), (17, .el ⟨b17, 0, none⟩ 1 fun j => [SV.sl ya ys.length yc 5 (entRd ys)].getD j default), (13, .el ⟨b13, 0, none⟩ 2 fun j => [SV.i .u32 q.addr, SV.i .i64 q.len].getD j default), (10, .el ⟨b10, 0, none⟩ 5 fun j => (Ent.cs f).getD j default), (9, .el ⟨b9, 0, none⟩ 5 fun j => (Ent.cs e).getD j default), (15, .v (.pointer (some ⟨cb, 0, none⟩))), (14, .ff), (4, .i .u32 ad), (5, .i .i64 t)], [.gone, .gone, .row (some ⟨bl, 0, none⟩) 25 3 3 1 (regsRd rs), .gone, .row (some ⟨bA, 0, none⟩) 27 2 2 1 (fun i _ => .i .u32 (ns.getD i 0 : Nat))]⟩) (fun _ => True) (fun hrest6 => ?_) ?_
    · refine Sat.block ?_
      refine Sat.loop (ι := Nat) (fun p => ⟨277, [(153, .i .i64 hs.length), (154, .i .i64 p), (28, .sl a28 hs.length c28 3 (owRd hs)), (29, .sl a29 hs.length c29 3 (owRd hs)), (30, .sl a30 ch.length c30 2 (ivRd ch)), (31, .sl a31 ch.length c31 2 (ivRd ch)), (21, .i .u32 (ba : Nat)), (79, .i .i64 n2), (77, .os 4 (some ⟨bA, 0, none⟩) 2 2), (78, .i .i64 2), (19, .el ⟨b19, 0, none⟩ 1 fun j => [SV.sl rg.ad rg.es.length rg.cap 5 (entRd rg.es)].getD j default), (65, .i .i64 i), (63, .os 2 (some ⟨bl, 0, none⟩) 3 3), (64, .i .i64 3), (17, .el ⟨b17, 0, none⟩ 1 fun j => [SV.sl ya ys.length yc 5 (entRd ys)].getD j default), (13, .el ⟨b13, 0, none⟩ 2 fun j => [SV.i .u32 q.addr, SV.i .i64 q.len].getD j default), (10, .el ⟨b10, 0, none⟩ 5 fun j => (Ent.cs f).getD j default), (9, .el ⟨b9, 0, none⟩ 5 fun j => (Ent.cs e).getD j default), (15, .v (.pointer (some ⟨cb, 0, none⟩))), (14, .ff), (4, .i .u32 ad), (5, .i .i64 t)], [.gone, .gone, .row (some ⟨bl, 0, none⟩) 25 3 3 1 (regsRd rs), .gone, .row (some ⟨bA, 0, none⟩) 27 2 2 1 (fun i _ => .i .u32 (ns.getD i 0 : Nat))]⟩) (fun p => p ≤ hs.length) (fun p => hs.length - p) 0 (Nat.zero_le _) (by
        (try simp only [Ent.cs])
        simp -implicitDefEqProofs only [evr, id, seval, Nat.sub_zero, Option.map_none, ent0, ent1, ent2, ent3, ent4, regS, entS, Ent.cs, tupL, ptr, RgP.s, ow0, ow1, ow2, iv0, iv1, prS, prC, regs0, int_at, lkS, ent_self, evl, evn]
        try rfl) ?_
      rintro p hp
      (try simp only [Ent.cs])
      (repeat refine Sat.seq ?_)
      (refine Sat.region_k fun k hk => ?_; simp -implicitDefEqProofs only [evr, id, seval, Nat.sub_zero, Option.map_none, ent0, ent1, ent2, ent3, ent4, regS, entS, Ent.cs, tupL, ptr, RgP.s, ow0, ow1, ow2, iv0, iv1, prS, prC, regs0, int_at, lkS, ent_self, evn]; refine hk _ ?_; clear hk k; try show Sat _ _ _ _ _)
      (repeat refine Sat.seq ?_)
      refine Sat.cond_b rfl (fun h5 => ?_) (fun h5 => ?_)
      rotate_left
      · refine Sat.exit ?_
        simp only [thenK, blockK, reduceIte]
        refine (hrest6 () trivial).le ?_
        (try simp only [Ent.cs])
        simp -implicitDefEqProofs only [evr, id, seval, Nat.sub_zero, Option.map_none, ent0, ent1, ent2, ent3, ent4, regS, entS, Ent.cs, tupL, ptr, RgP.s, ow0, ow1, ow2, iv0, iv1, prS, prC, regs0, int_at, lkS, ent_self, evl, evn]
      simp only [decide_eq_true_eq] at h5
      have hp5 : p < hs.length := by omega
      have e6 : IntKind.i64.wrap ((p : Int) + 1) = ((p + 1 : Nat) : Int) := by rw [w64 (by omega)]; omega
      refine Sat.skip ?_
      simp only [thenK]
      (repeat refine Sat.seq ?_)
      refine Sat.block ?_
      (repeat refine Sat.seq ?_)
      (refine Sat.region_k fun k hk => ?_; simp -implicitDefEqProofs only [evr, id, seval, Nat.sub_zero, Option.map_none, ent0, ent1, ent2, ent3, ent4, regS, entS, Ent.cs, tupL, ptr, RgP.s, ow0, ow1, ow2, iv0, iv1, prS, prC, regs0, int_at, lkS, ent_self, evn]; refine hk _ ?_; clear hk k; try show Sat _ _ _ _ _)
      (repeat refine Sat.seq ?_)
      refine Sat.region_qk (by kernel_rfl) (by kernel_rfl) fun k hk => ?_
      simp -implicitDefEqProofs only [evr, id, seval, Nat.sub_zero, Option.map_none, ent0, ent1, ent2, ent3, ent4, regS, entS, Ent.cs, tupL, ptr, RgP.s, ow0, ow1, ow2, iv0, iv1, prS, prC, regs0, int_at, lkS, ent_self, ow_self, evn]
      repeat' (first
        | (with_reducible refine And.intro ?_ ?_)
        | omega
        | (with_reducible refine hk _ ?_))
      simp only [thenK]
      (repeat refine Sat.seq ?_)
      refine Sat.cond_b rfl (fun h => absurd h (by decide)) (fun _ => ?_)
      refine Sat.skip ?_
      simp only [thenK, blockK, reduceIte]
      refine Sat.region_k fun k hk => ?_
      simp -implicitDefEqProofs only [evr, id, seval, Nat.sub_zero, Option.map_none, ent0, ent1, ent2, ent3, ent4, regS, entS, Ent.cs, tupL, ptr, RgP.s, ow0, ow1, ow2, iv0, iv1, prS, prC, regs0, int_at, lkS, ent_self, e6, evn]
      refine hk _ ?_
      simp only [thenK, blockK]
      refine ⟨p + 1, by omega, by omega, ?_⟩
      (try simp only [Ent.cs])
      simp -implicitDefEqProofs only [evr, id, seval, Nat.sub_zero, Option.map_none, ent0, ent1, ent2, ent3, ent4, regS, entS, Ent.cs, tupL, ptr, RgP.s, ow0, ow1, ow2, iv0, iv1, prS, prC, regs0, int_at, lkS, ent_self, evl, evn]
    rintro ⟨⟩ -
    (try simp only [Ent.cs])
    (repeat refine Sat.seq ?_)
    (refine Sat.region_k fun k hk => ?_; simp -implicitDefEqProofs only [evr, id, seval, Nat.sub_zero, Option.map_none, ent0, ent1, ent2, ent3, ent4, regS, entS, Ent.cs, tupL, ptr, RgP.s, ow0, ow1, ow2, iv0, iv1, prS, prC, regs0, int_at, lkS, ent_self, evn]; refine hk _ ?_; clear hk k; try show Sat _ _ _ _ _)
    (repeat refine Sat.seq ?_)
    refine Sat.block ?_
    refine Sat.loop (ι := Nat) (fun p => ⟨277, [(168, .i .i64 ch.length), (169, .i .i64 p), (28, .sl a28 hs.length c28 3 (owRd hs)), (29, .sl a29 hs.length c29 3 (owRd hs)), (30, .sl a30 ch.length c30 2 (ivRd ch)), (31, .sl a31 ch.length c31 2 (ivRd ch)), (21, .i .u32 (ba : Nat)), (79, .i .i64 n2), (77, .os 4 (some ⟨bA, 0, none⟩) 2 2), (78, .i .i64 2), (19, .el ⟨b19, 0, none⟩ 1 fun j => [SV.sl rg.ad rg.es.length rg.cap 5 (entRd rg.es)].getD j default), (65, .i .i64 i), (63, .os 2 (some ⟨bl, 0, none⟩) 3 3), (64, .i .i64 3), (17, .el ⟨b17, 0, none⟩ 1 fun j => [SV.sl ya ys.length yc 5 (entRd ys)].getD j default), (13, .el ⟨b13, 0, none⟩ 2 fun j => [SV.i .u32 q.addr, SV.i .i64 q.len].getD j default), (10, .el ⟨b10, 0, none⟩ 5 fun j => (Ent.cs f).getD j default), (9, .el ⟨b9, 0, none⟩ 5 fun j => (Ent.cs e).getD j default), (15, .v (.pointer (some ⟨cb, 0, none⟩))), (14, .ff), (4, .i .u32 ad), (5, .i .i64 t)], [.gone, .gone, .row (some ⟨bl, 0, none⟩) 25 3 3 1 (regsRd rs), .gone, .row (some ⟨bA, 0, none⟩) 27 2 2 1 (fun i _ => .i .u32 (ns.getD i 0 : Nat))]⟩) (fun p => p ≤ ch.length) (fun p => ch.length - p) 0 (Nat.zero_le _) (by
      (try simp only [Ent.cs])
      simp -implicitDefEqProofs only [evr, id, seval, Nat.sub_zero, Option.map_none, ent0, ent1, ent2, ent3, ent4, regS, entS, Ent.cs, tupL, ptr, RgP.s, ow0, ow1, ow2, iv0, iv1, prS, prC, regs0, int_at, lkS, ent_self, evl, evn]
      try rfl) ?_
    rintro p hp
    (try simp only [Ent.cs])
    (repeat refine Sat.seq ?_)
    (refine Sat.region_k fun k hk => ?_; simp -implicitDefEqProofs only [evr, id, seval, Nat.sub_zero, Option.map_none, ent0, ent1, ent2, ent3, ent4, regS, entS, Ent.cs, tupL, ptr, RgP.s, ow0, ow1, ow2, iv0, iv1, prS, prC, regs0, int_at, lkS, ent_self, evn]; refine hk _ ?_; clear hk k; try show Sat _ _ _ _ _)
    (repeat refine Sat.seq ?_)
    refine Sat.cond_b rfl (fun h5 => ?_) (fun h5 => ?_)
    rotate_left
    · refine Sat.exit ?_
      simp only [thenK, blockK, reduceIte]
      refine Sat.region_k fun k hk => ?_
      simp -implicitDefEqProofs only [evr, id, seval, Nat.sub_zero, Option.map_none, ent0, ent1, ent2, ent3, ent4, regS, entS, Ent.cs, tupL, ptr, RgP.s, ow0, ow1, ow2, iv0, iv1, prS, prC, regs0, int_at, lkS, ent_self, e3, evn]
      refine hk _ ?_
      simp only [thenK, blockK]
      refine ⟨n2 + 1, by omega, by omega, ?_⟩
      (try simp only [Ent.cs])
      simp -implicitDefEqProofs only [evr, id, seval, Nat.sub_zero, Option.map_none, ent0, ent1, ent2, ent3, ent4, regS, entS, Ent.cs, tupL, ptr, RgP.s, ow0, ow1, ow2, iv0, iv1, prS, prC, regs0, int_at, lkS, ent_self, evl, evn]
    simp only [decide_eq_true_eq] at h5
    have hp5 : p < ch.length := by omega
    have e6 : IntKind.i64.wrap ((p : Int) + 1) = ((p + 1 : Nat) : Int) := by rw [w64 (by omega)]; omega
    refine Sat.skip ?_
    simp only [thenK]
    (repeat refine Sat.seq ?_)
    refine Sat.block ?_
    (repeat refine Sat.seq ?_)
    (refine Sat.region_k fun k hk => ?_; simp -implicitDefEqProofs only [evr, id, seval, Nat.sub_zero, Option.map_none, ent0, ent1, ent2, ent3, ent4, regS, entS, Ent.cs, tupL, ptr, RgP.s, ow0, ow1, ow2, iv0, iv1, prS, prC, regs0, int_at, lkS, ent_self, evn]; refine hk _ ?_; clear hk k; try show Sat _ _ _ _ _)
    (repeat refine Sat.seq ?_)
    refine Sat.region_qk (by kernel_rfl) (by kernel_rfl) fun k hk => ?_
    simp -implicitDefEqProofs only [evr, id, seval, Nat.sub_zero, Option.map_none, ent0, ent1, ent2, ent3, ent4, regS, entS, Ent.cs, tupL, ptr, RgP.s, ow0, ow1, ow2, iv0, iv1, prS, prC, regs0, int_at, lkS, ent_self, iv_self, evn]
    repeat' (first
      | (with_reducible refine And.intro ?_ ?_)
      | omega
      | (with_reducible refine hk _ ?_))
    simp only [thenK]
    (repeat refine Sat.seq ?_)
    refine Sat.cond_b rfl (fun h => absurd h (by decide)) (fun _ => ?_)
    refine Sat.skip ?_
    simp only [thenK, blockK, reduceIte]
    refine Sat.region_k fun k hk => ?_
    simp -implicitDefEqProofs only [evr, id, seval, Nat.sub_zero, Option.map_none, ent0, ent1, ent2, ent3, ent4, regS, entS, Ent.cs, tupL, ptr, RgP.s, ow0, ow1, ow2, iv0, iv1, prS, prC, regs0, int_at, lkS, ent_self, e6, evn]
    refine hk _ ?_
    simp only [thenK, blockK]
    refine ⟨p + 1, by omega, by omega, ?_⟩
    (try simp only [Ent.cs])
    simp -implicitDefEqProofs only [evr, id, seval, Nat.sub_zero, Option.map_none, ent0, ent1, ent2, ent3, ent4, regS, entS, Ent.cs, tupL, ptr, RgP.s, ow0, ow1, ow2, iv0, iv1, prS, prC, regs0, int_at, lkS, ent_self, evl, evn]
  rintro ⟨⟩ -
  (try simp only [Ent.cs])
  (repeat refine Sat.seq ?_)
  (refine Sat.region_rows [⟨0, 184, 512, 1⟩, ⟨0, 185, 32768, 0⟩, ⟨2, 186, 24519928653854221733733552434404946937899825954937634816, 2⟩, ⟨5, 187, 61299821634635554334333881086012367344749564887344087040, 2⟩, ⟨8, 188, 98079714615416886934934209737619787751599303819750539264, 0⟩, ⟨0, 189, 0, 0⟩] [1, 5, 0] [(2, false), (3, false), (4, false)] [2] (by kernel_rfl) (by kernel_rfl) (fun _ _ h => h) fun k hk => ?_; simp only [List.map_cons, List.map_nil, List.getD_cons_zero, List.getD_cons_succ, btseq_cons, btseq_free, btseq_nil]; simp -implicitDefEqProofs only [evr, id, seval, Nat.sub_zero, Option.map_none, ent0, ent1, ent2, ent3, ent4, regS, entS, Ent.cs, tupL, ptr, RgP.s, ow0, ow1, ow2, iv0, iv1, prS, prC, regs0, int_at, lkS, ent_self, evn])
  refine wcall_plain ((diceEntryC cb).codesT) rfl (by rintro _ ⟨e, rfl, _⟩; exact entS_ok e) ?_
  rintro r ⟨g2, rfl, _, hg2⟩
  simp -implicitDefEqProofs only [evr, id, seval, Nat.sub_zero, Option.map_none, ent0, ent1, ent2, ent3, ent4, regS, entS, Ent.cs, tupL, ptr, RgP.s, ow0, ow1, ow2, iv0, iv1, prS, prC, regs0, int_at, lkS, ent_self, evn]
  intro bG
  (refine hk _ ?_; clear hk k; try show Sat _ _ _ _ _)
  obtain ⟨gs, hgs⟩ : ∃ gs : List Ent, gs = [e, g2] := ⟨_, rfl⟩
  have hgb : ∀ k, eOk (gs.getD k default) := fun k => by
    rw [hgs]
    match k with
    | 0 => exact he
    | 1 => exact hg2
    | k + 2 => exact (by decide : (0 : Nat) < 2 ^ 32)
  (repeat refine Sat.seq ?_)
  refine Sat.block ?_
  refine Sat.loop (ι := Nat) (fun n3 => ⟨277, [(188, .i .i64 n3), (186, .os 4 (some ⟨bG, 0, none⟩) 2 2), (187, .i .i64 2), (19, .el ⟨b19, 0, none⟩ 1 fun j => [SV.sl rg.ad rg.es.length rg.cap 5 (entRd rg.es)].getD j default), (65, .i .i64 i), (63, .os 2 (some ⟨bl, 0, none⟩) 3 3), (64, .i .i64 3), (17, .el ⟨b17, 0, none⟩ 1 fun j => [SV.sl ya ys.length yc 5 (entRd ys)].getD j default), (13, .el ⟨b13, 0, none⟩ 2 fun j => [SV.i .u32 q.addr, SV.i .i64 q.len].getD j default), (10, .el ⟨b10, 0, none⟩ 5 fun j => (Ent.cs f).getD j default), (9, .el ⟨b9, 0, none⟩ 5 fun j => (Ent.cs e).getD j default), (15, .v (.pointer (some ⟨cb, 0, none⟩))), (14, .ff), (4, .i .u32 ad), (5, .i .i64 t)], [.gone, .gone, .row (some ⟨bl, 0, none⟩) 25 3 3 1 (regsRd rs), .gone, .row (some ⟨bG, 0, none⟩) 31 2 2 5 (entRd gs)]⟩) (fun n3 => n3 ≤ 2) (fun n3 => 2 - n3) 0 (Nat.zero_le _) (by
    (try simp only [Ent.cs])
    simp -implicitDefEqProofs only [evr, id, seval, Nat.sub_zero, Option.map_none, ent0, ent1, ent2, ent3, ent4, regS, entS, Ent.cs, tupL, ptr, RgP.s, ow0, ow1, ow2, iv0, iv1, prS, prC, regs0, int_at, lkS, ent_self, evl, evn]
    rw [hgs]
    intro p q hp hq
    rcases (show p = 0 ∨ p = 1 by omega) with rfl | rfl <;> rcases (show q = 0 ∨ q = 1 ∨ q = 2 ∨ q = 3 ∨ q = 4 by omega) with rfl | rfl | rfl | rfl | rfl <;> rfl) ?_
  rintro n3 hn3
  (try simp only [Ent.cs])
  (repeat refine Sat.seq ?_)
  (refine Sat.region_k fun k hk => ?_; simp -implicitDefEqProofs only [evr, id, seval, Nat.sub_zero, Option.map_none, ent0, ent1, ent2, ent3, ent4, regS, entS, Ent.cs, tupL, ptr, RgP.s, ow0, ow1, ow2, iv0, iv1, prS, prC, regs0, int_at, lkS, ent_self, evn]; refine hk _ ?_; clear hk k; try show Sat _ _ _ _ _)
  (repeat refine Sat.seq ?_)
  refine Sat.cond_b rfl (fun h3 => ?_) (fun h3 => ?_)
  rotate_left
  · refine Sat.exit ?_
    simp only [thenK, blockK, reduceIte]
    refine Sat.region_k fun k hk => ?_
    simp -implicitDefEqProofs only [evr, id, seval, Nat.sub_zero, Option.map_none, ent0, ent1, ent2, ent3, ent4, regS, entS, Ent.cs, tupL, ptr, RgP.s, ow0, ow1, ow2, iv0, iv1, prS, prC, regs0, int_at, lkS, ent_self, e1, evn]
    refine hk _ ?_
    simp only [thenK, blockK]
    refine ⟨i + 1, by omega, by omega, ?_⟩
    (try simp only [Ent.cs])
    simp -implicitDefEqProofs only [evr, id, seval, Nat.sub_zero, Option.map_none, ent0, ent1, ent2, ent3, ent4, regS, entS, Ent.cs, tupL, ptr, RgP.s, ow0, ow1, ow2, iv0, iv1, prS, prC, regs0, int_at, lkS, ent_self, evl, evn]
  simp only [decide_eq_true_eq] at h3
  have hlt3 : n3 < 2 := by omega
  have e3 : IntKind.i64.wrap ((n3 : Int) + 1) = ((n3 + 1 : Nat) : Int) := by rw [w64 (by omega)]; omega
  refine Sat.skip ?_
  simp only [thenK]
  (repeat refine Sat.seq ?_)
  refine Sat.block ?_
  (repeat refine Sat.seq ?_)
  (refine Sat.region_k fun k hk => ?_; simp -implicitDefEqProofs only [evr, id, seval, Nat.sub_zero, Option.map_none, ent0, ent1, ent2, ent3, ent4, regS, entS, Ent.cs, tupL, ptr, RgP.s, ow0, ow1, ow2, iv0, iv1, prS, prC, regs0, int_at, lkS, ent_self, evn])
  refine ⟨by omega, by omega, fun b35 => ?_⟩
  (refine hk _ ?_; clear hk k; try show Sat _ _ _ _ _)
  have hgo := hgb n3
  generalize gs.getD n3 default = g at hgo ⊢
  refine Sat.settleBox 35 rfl rfl ?_
  (repeat refine Sat.seq ?_)
  (refine Sat.region_k fun k hk => ?_; simp -implicitDefEqProofs only [evr, id, seval, Nat.sub_zero, Option.map_none, ent0, ent1, ent2, ent3, ent4, regS, entS, Ent.cs, tupL, ptr, RgP.s, ow0, ow1, ow2, iv0, iv1, prS, prC, regs0, int_at, lkS, ent_self, evn])
  refine wcall_slice (addC _ rg.ad rg.cap rg.es hg (by omega) g hgo) rfl (by simp -implicitDefEqProofs only [evr, id, seval, Nat.sub_zero, Option.map_none, ent0, ent1, ent2, ent3, ent4, regS, entS, Ent.cs, tupL, ptr, RgP.s, ow0, ow1, ow2, iv0, iv1, prS, prC, regs0, int_at, lkS, ent_self, evn]; first | done | rfl) ?_
  rintro r ⟨a36, c36, rfl⟩
  simp -implicitDefEqProofs only [evr, id, seval, Nat.sub_zero, Option.map_none, ent0, ent1, ent2, ent3, ent4, regS, entS, Ent.cs, tupL, ptr, RgP.s, ow0, ow1, ow2, iv0, iv1, prS, prC, regs0, int_at, lkS, ent_self, evn]
  intro b36
  (refine hk _ ?_; clear hk k; try show Sat _ _ _ _ _)
  (repeat refine Sat.seq ?_)
  (refine Sat.region_k fun k hk => ?_; simp -implicitDefEqProofs only [evr, id, seval, Nat.sub_zero, Option.map_none, ent0, ent1, ent2, ent3, ent4, regS, entS, Ent.cs, tupL, ptr, RgP.s, ow0, ow1, ow2, iv0, iv1, prS, prC, regs0, int_at, lkS, ent_self, evn])
  refine wcall_slice (refAddC _ rg.ad rg.cap rg.es hg (by omega) g hgo) rfl (by simp -implicitDefEqProofs only [evr, id, seval, Nat.sub_zero, Option.map_none, ent0, ent1, ent2, ent3, ent4, regS, entS, Ent.cs, tupL, ptr, RgP.s, ow0, ow1, ow2, iv0, iv1, prS, prC, regs0, int_at, lkS, ent_self, evn]; first | done | rfl) ?_
  rintro r ⟨a38, c38, rfl⟩
  simp -implicitDefEqProofs only [evr, id, seval, Nat.sub_zero, Option.map_none, ent0, ent1, ent2, ent3, ent4, regS, entS, Ent.cs, tupL, ptr, RgP.s, ow0, ow1, ow2, iv0, iv1, prS, prC, regs0, int_at, lkS, ent_self, evn]
  intro b38
  (refine hk _ ?_; clear hk k; try show Sat _ _ _ _ _)
  (repeat refine Sat.seq ?_)
  have hal := addV_len rg.es g
  refine Sat.region_qk (by kernel_rfl) (by kernel_rfl) fun k hk => ?_
  simp -implicitDefEqProofs only [evr, id, seval, Nat.sub_zero, Option.map_none, ent0, ent1, ent2, ent3, ent4, regS, entS, Ent.cs, tupL, ptr, RgP.s, ow0, ow1, ow2, iv0, iv1, prS, prC, regs0, int_at, lkS, ent_self, bne_self_eq_false, evn]
  refine qcall (refSameC Frm.nil a36 a38 c36 c38 (addV rg.es g).1 (addV rg.es g).1 (by omega)) (by first | done | rfl) (ok_plain rfl) ?_
  simp only [decide_true, evr, id, seval, List.append_nil, Int.toNat_zero, Nat.sub_self, Nat.sub_zero, Option.map_none, ent0, ent1, ent2, ent3, ent4, regS, entS, Ent.cs, tupL, ptr, RgP.s, ow0, ow1, ow2, iv0, iv1, prS, prC, regs0, int_at, lkS, ent_self]
  refine qcall (compareEC Frm.nil g f) (by first | done | rfl) (ok_plain rfl) ?_
  simp -implicitDefEqProofs only [evr, id, seval, Nat.sub_zero, Option.map_none, ent0, ent1, ent2, ent3, ent4, regS, entS, Ent.cs, tupL, ptr, RgP.s, ow0, ow1, ow2, iv0, iv1, prS, prC, regs0, int_at, lkS, ent_self, evn]
  refine qcall (refCompareC Frm.nil g f hgo hf) (by first | done | rfl) (ok_plain rfl) ?_
  simp only [bne_self_eq_false, evr, id, seval, List.append_nil, Int.toNat_zero, Nat.sub_self, Nat.sub_zero, Option.map_none, ent0, ent1, ent2, ent3, ent4, regS, entS, Ent.cs, tupL, ptr, RgP.s, ow0, ow1, ow2, iv0, iv1, prS, prC, regs0, int_at, lkS, ent_self]
  (refine hk _ ?_; clear hk k; try show Sat _ _ _ _ _)
  (repeat refine Sat.seq ?_)
  refine Sat.cond_b rfl (fun h => absurd h (by decide)) (fun _ => ?_)
  refine Sat.skip ?_
  simp only [thenK]
  (repeat refine Sat.seq ?_)
  (refine Sat.region_k fun k hk => ?_; simp -implicitDefEqProofs only [evr, id, seval, Nat.sub_zero, Option.map_none, ent0, ent1, ent2, ent3, ent4, regS, entS, Ent.cs, tupL, ptr, RgP.s, ow0, ow1, ow2, iv0, iv1, prS, prC, regs0, int_at, lkS, ent_self, evn])
  intro b40
  (refine hk _ ?_; clear hk k; try show Sat _ _ _ _ _)
  (repeat refine Sat.seq ?_)
  refine Sat.join2 (ι := Bool) (fun bb => ⟨277, [(231, .b bb), (40, .op 8 b40 0), (41, .i .i64 t), (35, .el ⟨b35, 0, none⟩ 5 fun j => (Ent.cs g).getD j default), (36, .op 6 b36 0), (38, .op 7 b38 0), (188, .i .i64 n3), (186, .os 4 (some ⟨bG, 0, none⟩) 2 2), (187, .i .i64 2), (19, .el ⟨b19, 0, none⟩ 1 fun j => [SV.sl rg.ad rg.es.length rg.cap 5 (entRd rg.es)].getD j default), (65, .i .i64 i), (63, .os 2 (some ⟨bl, 0, none⟩) 3 3), (64, .i .i64 3), (17, .el ⟨b17, 0, none⟩ 1 fun j => [SV.sl ya ys.length yc 5 (entRd ys)].getD j default), (13, .el ⟨b13, 0, none⟩ 2 fun j => [SV.i .u32 q.addr, SV.i .i64 q.len].getD j default), (10, .el ⟨b10, 0, none⟩ 5 fun j => (Ent.cs f).getD j default), (9, .el ⟨b9, 0, none⟩ 5 fun j => (Ent.cs e).getD j default), (15, .v (.pointer (some ⟨cb, 0, none⟩))), (14, .ff), (4, .i .u32 ad), (5, .i .i64 t)], [.gone, .gone, .row (some ⟨bl, 0, none⟩) 25 3 3 1 (regsRd rs), .gone, .row (some ⟨bG, 0, none⟩) 31 2 2 5 (entRd gs), .gone, .box b36 25 [.sl a36 (addV rg.es g).1.length c36 5 (entRd (addV rg.es g).1)], .box b38 25 [.sl a38 (addV rg.es g).1.length c38 5 (entRd (addV rg.es g).1)], .box b40 29 [.i .u32 q.addr, .i .i64 q.len]]⟩) (fun bb => bb = true → 0 < rg.es.length) (fun hrest => ?_) ?_
  · (refine Sat.region_k fun k hk => ?_; simp -implicitDefEqProofs only [evr, id, seval, Nat.sub_zero, Option.map_none, ent0, ent1, ent2, ent3, ent4, regS, entS, Ent.cs, tupL, ptr, RgP.s, ow0, ow1, ow2, iv0, iv1, prS, prC, regs0, int_at, lkS, ent_self, evn])
    refine ⟨fun hc => ?_, fun hc => ?_⟩
    · refine wcall_plain ((boolC cb 2 (by decide) (by decide)).codesT) rfl plain_bool ?_
      rintro r ⟨bb, rfl⟩
      simp -implicitDefEqProofs only [evr, id, seval, Nat.sub_zero, Option.map_none, ent0, ent1, ent2, ent3, ent4, regS, entS, Ent.cs, tupL, ptr, RgP.s, ow0, ow1, ow2, iv0, iv1, prS, prC, regs0, int_at, lkS, ent_self, evn]
      refine hk _ ?_
      simp only [thenK]
      refine (hrest bb (fun _ => by omega)).le ?_
      (try simp only [Ent.cs])
      simp -implicitDefEqProofs only [evr, id, seval, Nat.sub_zero, Option.map_none, ent0, ent1, ent2, ent3, ent4, regS, entS, Ent.cs, tupL, ptr, RgP.s, ow0, ow1, ow2, iv0, iv1, prS, prC, regs0, int_at, lkS, ent_self, evl, evn]
    · refine hk _ ?_
      simp only [thenK]
      refine (hrest false (fun h => by cases h)).le ?_
      (try simp only [Ent.cs])
      simp -implicitDefEqProofs only [evr, id, seval, Nat.sub_zero, Option.map_none, ent0, ent1, ent2, ent3, ent4, regS, entS, Ent.cs, tupL, ptr, RgP.s, ow0, ow1, ow2, iv0, iv1, prS, prC, regs0, int_at, lkS, ent_self, evl, evn]
  rintro bb hbb
  (try simp only [Ent.cs])
  refine Sat.join (ι := Prf × Int) (fun z => ⟨277, [(40, .op 8 b40 0), (41, .i .i64 z.2), (35, .el ⟨b35, 0, none⟩ 5 fun j => (Ent.cs g).getD j default), (36, .op 6 b36 0), (38, .op 7 b38 0), (188, .i .i64 n3), (186, .os 4 (some ⟨bG, 0, none⟩) 2 2), (187, .i .i64 2), (19, .el ⟨b19, 0, none⟩ 1 fun j => [SV.sl rg.ad rg.es.length rg.cap 5 (entRd rg.es)].getD j default), (65, .i .i64 i), (63, .os 2 (some ⟨bl, 0, none⟩) 3 3), (64, .i .i64 3), (17, .el ⟨b17, 0, none⟩ 1 fun j => [SV.sl ya ys.length yc 5 (entRd ys)].getD j default), (13, .el ⟨b13, 0, none⟩ 2 fun j => [SV.i .u32 q.addr, SV.i .i64 q.len].getD j default), (10, .el ⟨b10, 0, none⟩ 5 fun j => (Ent.cs f).getD j default), (9, .el ⟨b9, 0, none⟩ 5 fun j => (Ent.cs e).getD j default), (15, .v (.pointer (some ⟨cb, 0, none⟩))), (14, .ff), (4, .i .u32 ad), (5, .i .i64 t)], [.gone, .gone, .row (some ⟨bl, 0, none⟩) 25 3 3 1 (regsRd rs), .gone, .row (some ⟨bG, 0, none⟩) 31 2 2 5 (entRd gs), .gone, .box b36 25 [.sl a36 (addV rg.es g).1.length c36 5 (entRd (addV rg.es g).1)], .box b38 25 [.sl a38 (addV rg.es g).1.length c38 5 (entRd (addV rg.es g).1)], .box b40 29 [.i .u32 z.1.addr, .i .i64 z.1.len]]⟩) (fun _ => True) ?_ ?_
  · refine Sat.cond_b rfl (fun hc => ?_) (fun hc => ?_)
    · have hpos := hbb hc
      (repeat refine Sat.seq ?_)
      (refine Sat.region_k fun k hk => ?_; simp -implicitDefEqProofs only [evr, id, seval, Nat.sub_zero, Option.map_none, ent0, ent1, ent2, ent3, ent4, regS, entS, Ent.cs, tupL, ptr, RgP.s, ow0, ow1, ow2, iv0, iv1, prS, prC, regs0, int_at, lkS, ent_self, evn])
      refine wcall_plain ((nextC cb rg.es.length (by omega) (by omega)).codesT) rfl (by rintro _ ⟨x, rfl, _⟩; exact ok_plain rfl) ?_
      rintro r ⟨v, rfl, hv0, hv1⟩
      obtain ⟨vn, rfl⟩ := Int.eq_ofNat_of_zero_le hv0
      simp -implicitDefEqProofs only [evr, id, seval, Nat.sub_zero, Option.map_none, ent0, ent1, ent2, ent3, ent4, regS, entS, Ent.cs, tupL, ptr, RgP.s, ow0, ow1, ow2, iv0, iv1, prS, prC, regs0, int_at, lkS, ent_self, evn]
      (refine hk _ ?_; clear hk k; try show Sat _ _ _ _ _)
      (refine Sat.region_tree (.keep [0, 2, 6, 8, 12, 1, 3, 4, 5] [7, 9, 10, 11, 13, 14] (.alt 7 (.free 9 (.free 10 (.alt 11 (.one 13 (.free 14 (.one 15 (.one 16 .done)))) (.alt 13 (.alt 11 (.free 14 (.one 15 (.one 16 .done))) (.alt 15 (.one 11 (.one 14 (.one 16 .done))) .none)) .none)))) (.alt 13 (.alt 7 (.free 9 (.free 10 (.alt 11 (.free 14 (.one 15 (.one 16 .done))) (.alt 15 (.one 11 (.one 14 (.one 16 .done))) .none)))) (.alt 15 (.one 7 (.one 9 (.one 10 (.one 11 (.one 14 (.one 16 .done)))))) .none)) .none))) (by kernel_rfl) (by kernel_rfl) (fun _ _ h => h) fun k hk => ?_; simp only [WOT, List.map_cons, List.map_nil, List.getD_cons_zero, List.getD_cons_succ]; simp -implicitDefEqProofs only [evr, id, seval, Nat.sub_zero, Option.map_none, ent0, ent1, ent2, ent3, ent4, regS, entS, Ent.cs, tupL, ptr, RgP.s, ow0, ow1, ow2, iv0, iv1, prS, prC, regs0, int_at, lkS, ent_self, WOT, evn])
      repeat' (first
        | (with_reducible refine And.intro ?_ ?_)
        | omega
        | (refine wcall_plain ((nextC cb 2 (by decide) (by decide)).codesT) rfl (by rintro _ ⟨x, rfl, _⟩; exact ok_plain rfl) ?_
           rintro r ⟨v2, rfl, hv2, hv3⟩
           simp -implicitDefEqProofs only [evr, id, seval, Nat.sub_zero, Option.map_none, ent0, ent1, ent2, ent3, ent4, regS, entS, Ent.cs, tupL, ptr, RgP.s, ow0, ow1, ow2, iv0, iv1, prS, prC, regs0, int_at, lkS, ent_self, evn])
        | (refine hk _ ?_
           simp only [thenK]
           refine ⟨(⟨(rg.es.getD vn default).addr, (rg.es.getD vn default).len⟩, IntKind.i64.wrap ((rg.es.getD vn default).from_ + v2)), trivial, ?_⟩
           (try simp only [Ent.cs])
           simp -implicitDefEqProofs only [evr, id, seval, Nat.sub_zero, Option.map_none, ent0, ent1, ent2, ent3, ent4, regS, entS, Ent.cs, tupL, ptr, RgP.s, ow0, ow1, ow2, iv0, iv1, prS, prC, regs0, int_at, lkS, ent_self, evl, evn]
           done))
    · refine Sat.skip ?_
      simp only [thenK]
      refine ⟨(q, t), trivial, ?_⟩
      (try simp only [Ent.cs])
      simp -implicitDefEqProofs only [evr, id, seval, Nat.sub_zero, Option.map_none, ent0, ent1, ent2, ent3, ent4, regS, entS, Ent.cs, tupL, ptr, RgP.s, ow0, ow1, ow2, iv0, iv1, prS, prC, regs0, int_at, lkS, ent_self, evl, evn]
  rintro ⟨pq, pt⟩ -
  (try simp only [Ent.cs])
  have hrl9 := remV_len rg.es pq pt
  (repeat refine Sat.seq ?_)
  (refine Sat.region_k fun k hk => ?_; simp -implicitDefEqProofs only [evr, id, seval, Nat.sub_zero, Option.map_none, ent0, ent1, ent2, ent3, ent4, regS, entS, Ent.cs, tupL, ptr, RgP.s, ow0, ow1, ow2, iv0, iv1, prS, prC, regs0, int_at, lkS, ent_self, evn])
  refine wcall_slice (removeC _ rg.ad rg.cap rg.es hg (by omega) pq pt) rfl (by simp -implicitDefEqProofs only [evr, id, seval, Nat.sub_zero, Option.map_none, ent0, ent1, ent2, ent3, ent4, regS, entS, Ent.cs, tupL, ptr, RgP.s, ow0, ow1, ow2, iv0, iv1, prS, prC, regs0, int_at, lkS, ent_self, evn]; first | done | rfl) ?_
  rintro r ⟨a37, c37, rfl⟩
  simp -implicitDefEqProofs only [evr, id, seval, Nat.sub_zero, Option.map_none, ent0, ent1, ent2, ent3, ent4, regS, entS, Ent.cs, tupL, ptr, RgP.s, ow0, ow1, ow2, iv0, iv1, prS, prC, regs0, int_at, lkS, ent_self, evn]
  (refine hk _ ?_; clear hk k; try show Sat _ _ _ _ _)
  (repeat refine Sat.seq ?_)
  (refine Sat.region_k fun k hk => ?_; simp -implicitDefEqProofs only [evr, id, seval, Nat.sub_zero, Option.map_none, ent0, ent1, ent2, ent3, ent4, regS, entS, Ent.cs, tupL, ptr, RgP.s, ow0, ow1, ow2, iv0, iv1, prS, prC, regs0, int_at, lkS, ent_self, evn])
  refine wcall_slice (refRemoveC _ rg.ad rg.cap rg.es hg (by omega) pq pt) rfl (by simp -implicitDefEqProofs only [evr, id, seval, Nat.sub_zero, Option.map_none, ent0, ent1, ent2, ent3, ent4, regS, entS, Ent.cs, tupL, ptr, RgP.s, ow0, ow1, ow2, iv0, iv1, prS, prC, regs0, int_at, lkS, ent_self, evn]; first | done | rfl) ?_
  rintro r ⟨a39, c39, rfl⟩
  simp -implicitDefEqProofs only [evr, id, seval, Nat.sub_zero, Option.map_none, ent0, ent1, ent2, ent3, ent4, regS, entS, Ent.cs, tupL, ptr, RgP.s, ow0, ow1, ow2, iv0, iv1, prS, prC, regs0, int_at, lkS, ent_self, evn]
  (refine hk _ ?_; clear hk k; try show Sat _ _ _ _ _)
  (repeat refine Sat.seq ?_)
  refine Sat.region_k fun k hk => ?_
  simp -implicitDefEqProofs only [evr, id, seval, Nat.sub_zero, Option.map_none, ent0, ent1, ent2, ent3, ent4, regS, entS, Ent.cs, tupL, ptr, RgP.s, ow0, ow1, ow2, iv0, iv1, prS, prC, regs0, int_at, lkS, ent_self, bne_self_eq_false, evn]
  refine wcall_plain (refSameC _ a37 a39 c37 c39 (remV rg.es pq pt).1 (remV rg.es pq pt).1 (by omega)) (by first | done | rfl) (by rintro _ rfl; exact ok_plain rfl) ?_
  rintro r rfl
  simp only [decide_true, evr, id, seval, List.append_nil, Int.toNat_zero, Nat.sub_self, Nat.sub_zero, Option.map_none, ent0, ent1, ent2, ent3, ent4, regS, entS, Ent.cs, tupL, ptr, RgP.s, ow0, ow1, ow2, iv0, iv1, prS, prC, regs0, int_at, lkS, ent_self]
  (refine hk _ ?_; clear hk k; try show Sat _ _ _ _ _)
  (repeat refine Sat.seq ?_)
  refine Sat.cond_b rfl (fun h => absurd h (by decide)) (fun _ => ?_)
  refine Sat.skip ?_
  simp only [thenK, blockK, reduceIte]
  refine Sat.region_k fun k hk => ?_
  simp -implicitDefEqProofs only [evr, id, seval, Nat.sub_zero, Option.map_none, ent0, ent1, ent2, ent3, ent4, regS, entS, Ent.cs, tupL, ptr, RgP.s, ow0, ow1, ow2, iv0, iv1, prS, prC, regs0, int_at, lkS, ent_self, e3, evn]
  refine hk _ ?_
  simp only [thenK, blockK]
  refine ⟨n3 + 1, by omega, by omega, ?_⟩
  (try simp only [Ent.cs])
  simp -implicitDefEqProofs only [evr, id, seval, Nat.sub_zero, Option.map_none, ent0, ent1, ent2, ent3, ent4, regS, entS, Ent.cs, tupL, ptr, RgP.s, ow0, ow1, ow2, iv0, iv1, prS, prC, regs0, int_at, lkS, ent_self, evl, evn]
end Go.Proofs.YtepkbbmjbbnhnaaGreatDoor
