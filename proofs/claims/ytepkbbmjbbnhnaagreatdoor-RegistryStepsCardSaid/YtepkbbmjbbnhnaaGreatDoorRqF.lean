/- The reference of law 32: History, by the evaluator. -/
import Derived.Test.YtepkbbmjbbnhnaaGreatDoorRqE
import Derived.Test.YtepkbbmjbbnhnaaGreatDoorRqC
set_option linter.unusedSimpArgs false
set_option linter.unusedVariables false
namespace Go.Proofs.YtepkbbmjbbnhnaaGreatDoor
open Go.Sort Eng
set_option maxRecDepth 100000 in
theorem refHistoryC (F : Frm) (p : RgP) (h : esOk p.es) (hn : p.es.length ≤ 2000) (a : Nat) (ha : a < 2 ^ 32) :
    Contract F Tryz.prog 19 [p.s, .i .u32 a] (fun r => ∃ a2 c, r = .sl a2 (histL a p).length c 3 (owRd (histL a p))) := by
  refine Contract.same (post := fun r => (histL a p = [] ∧ ∃ rd, r = .sl none 0 0 0 rd) ∨ ∃ a2 c, r = .sl a2 (histL a p).length c 3 (owRd (histL a p))) ?_ (by
    rintro r (⟨h1, rd, rfl⟩ | ⟨a2, c, h2⟩)
    · rw [h1]
      exact ⟨_, sim_nil 0 3 rd (owRd []), none, 0, rfl⟩
    · exact ⟨r, sim_refl _, a2, c, h2⟩)
  refine contract_of Tryz.func19 rfl (by kernel_rfl) ?_
  simp only [Tryz.ntmps19, argEnv, RgP.s, regS]
  (repeat refine Sat.seq ?_)
  (refine Sat.region_k fun k hk => ?_; simp -implicitDefEqProofs only [evr, id, seval, ent0, ent1, ent2, ent3, ent4, Nat.sub_zero, int_at, ow0, ow1, ow2, lkS, entS, Ent.cs, tupL, intRowA, evn])
  intro b2
  (refine hk _ ?_; clear hk k; try show Sat _ _ _ _ _)
  (repeat refine Sat.seq ?_)
  (refine Sat.region_k fun k hk => ?_; simp -implicitDefEqProofs only [evr, id, seval, ent0, ent1, ent2, ent3, ent4, Nat.sub_zero, int_at, ow0, ow1, ow2, lkS, entS, Ent.cs, tupL, intRowA, evn])
  refine wcall_plain (refRegValidC F p.ad p.cap p.es h) (by simp -implicitDefEqProofs only [evr, id, seval, ent0, ent1, ent2, ent3, ent4, Nat.sub_zero, int_at, ow0, ow1, ow2, lkS, entS, Ent.cs, tupL, intRowA, evn]; rfl) (by rintro _ rfl; exact ok_plain rfl) ?_
  rintro r rfl
  simp -implicitDefEqProofs only [evr, id, seval, ent0, ent1, ent2, ent3, ent4, Nat.sub_zero, int_at, ow0, ow1, ow2, lkS, entS, Ent.cs, tupL, intRowA, evn]
  (refine hk _ ?_; clear hk k; try show Sat _ _ _ _ _)
  refine Sat.cond_b rfl (fun h1 => ?_) (fun h1 => ?_)
  · simp only [Bool.not_eq_true', decide_eq_false_iff_not] at h1
    (repeat refine Sat.seq ?_)
    (refine Sat.region_k fun k hk => ?_; simp -implicitDefEqProofs only [evr, id, seval, ent0, ent1, ent2, ent3, ent4, Nat.sub_zero, int_at, ow0, ow1, ow2, lkS, entS, Ent.cs, tupL, intRowA, evn]; refine hk _ ?_; clear hk k; try show Sat _ _ _ _ _)
    refine Sat.ret ?_
    simp only [Tryz.results19, evr, id, seval, List.append_nil, Int.toNat_zero, Nat.sub_self, ent0, ent1, ent2, ent3, ent4, Nat.sub_zero, int_at, ow0, ow1, ow2, lkS, entS, Ent.cs, tupL, intRowA]
    refine .inl ⟨?_, _, rfl⟩
    unfold histL
    rw [if_neg h1]
  · simp only [Bool.not_eq_false', decide_eq_true_eq] at h1
    have hv : histL a p = hist a p.es (timesL a [p]) ((timesL a [p]).length - 1) := by unfold histL; rw [if_pos h1]
    have hrs : rsOk [p] := fun r hr => by rw [List.mem_singleton.1 hr]; exact ⟨h, h1.1⟩
    have htl := timesL_len a [p] hrs
    simp only [List.length_singleton] at htl
    refine Sat.skip ?_
    simp only [thenK]
    (repeat refine Sat.seq ?_)
    (refine Sat.region_k fun k hk => ?_; simp -implicitDefEqProofs only [evr, id, seval, ent0, ent1, ent2, ent3, ent4, Nat.sub_zero, int_at, ow0, ow1, ow2, lkS, entS, Ent.cs, tupL, intRowA, evn])
    refine wcall_new (refTimesC F _ p.ad p.cap p.es h hn a ha) rfl (by simp -implicitDefEqProofs only [evr, id, seval, ent0, ent1, ent2, ent3, ent4, Nat.sub_zero, int_at, ow0, ow1, ow2, lkS, entS, Ent.cs, tupL, intRowA, evn]; rfl) ?_
    rintro a6 ty len c6 sz rrd ⟨a6', c6', e9⟩
    simp only [intRowA, Own.row.injEq] at e9
    obtain ⟨rfl, rfl, rfl, rfl, rfl, rfl⟩ := e9
    have htp := timesL_pos a [p]
    rw [show (⟨p.ad, p.cap, p.es⟩ : RgP) = p from rfl]
    generalize timesL a [p] = ts at hv htl htp ⊢
    simp -implicitDefEqProofs only [evr, id, seval, ent0, ent1, ent2, ent3, ent4, Nat.sub_zero, int_at, ow0, ow1, ow2, lkS, entS, Ent.cs, tupL, intRowA, evn]
    (refine hk _ ?_; clear hk k; try show Sat _ _ _ _ _)
    (repeat refine Sat.seq ?_)
    (refine Sat.region_k fun k hk => ?_; simp -implicitDefEqProofs only [evr, id, seval, ent0, ent1, ent2, ent3, ent4, Nat.sub_zero, int_at, ow0, ow1, ow2, lkS, entS, Ent.cs, tupL, intRowA, evn]; refine hk _ ?_; clear hk k; try show Sat _ _ _ _ _)
    refine Sat.adopt 6 51 3 (owRd []) rfl ?_
    (repeat refine Sat.seq ?_)
    (refine Sat.region_k fun k hk => ?_; simp -implicitDefEqProofs only [evr, id, seval, ent0, ent1, ent2, ent3, ent4, Nat.sub_zero, int_at, ow0, ow1, ow2, lkS, entS, Ent.cs, tupL, intRowA, evn]; refine hk _ ?_; clear hk k; try show Sat _ _ _ _ _)
    (repeat refine Sat.seq ?_)
    refine Sat.block ?_
    refine Sat.loop (ι := Nat × Option Addr × Nat × List Owd) (fun x => ⟨75, [(7, .i .i64 x.1), (5, .os 1 a6 ts.length c6), (6, .os 2 x.2.1 x.2.2.2.length x.2.2.1), (2, .op 0 b2 0), (1, .i .u32 a)],
      [.box b2 25 [.sl p.ad p.es.length p.cap 5 (entRd p.es)], .row a6 3 ts.length c6 1 (intsA ts.toArray), .row x.2.1 51 x.2.2.2.length x.2.2.1 3 (owRd x.2.2.2)]⟩)
      (fun x => x.1 ≤ ts.length - 1 ∧ x.2.2.2 = hist a p.es ts x.1) (fun x => ts.length - 1 - x.1) (0, none, 0, []) ⟨Nat.zero_le _, rfl⟩ (by simp -implicitDefEqProofs only [evr, id, seval, ent0, ent1, ent2, ent3, ent4, Nat.sub_zero, int_at, ow0, ow1, ow2, lkS, entS, Ent.cs, tupL, intRowA, evl, evn]; try rfl) ?_
    rintro ⟨i, a5, c5, l⟩ ⟨hi, hl⟩
    simp only at hi hl ⊢
    have hll : l.length ≤ i := hl ▸ hist_len a p.es ts i
    have e2 : IntKind.i64.wrap ((i : Int) + 1) = ((i + 1 : Nat) : Int) := by rw [w64 (by omega)]; omega
    (repeat refine Sat.seq ?_)
    refine Sat.region_k fun k hk => ?_
    simp -implicitDefEqProofs only [evr, id, seval, ent0, ent1, ent2, ent3, ent4, Nat.sub_zero, int_at, ow0, ow1, ow2, lkS, entS, Ent.cs, tupL, intRowA, e2, evn]
    (refine hk _ ?_; clear hk k; try show Sat _ _ _ _ _)
    (repeat refine Sat.seq ?_)
    refine Sat.cond_b rfl (fun h2 => ?_) (fun h2 => ?_)
    · simp only [decide_eq_true_eq] at h2
      have hlt : i < ts.length - 1 := by omega
      have hstep : hist a p.es ts (i + 1) = hsStep (hist a p.es ts i) (pvd a (ts.getD i 0) p.es) (ts.getD i 0) (ts.getD (i + 1) 0) := rfl
      rw [← hl] at hstep
      have ht1 := intsA_getD ts i (by omega)
      have ht2 := intsA_getD ts (i + 1) (by omega)
      refine Sat.skip ?_
      simp only [thenK]
      (repeat refine Sat.seq ?_)
      refine Sat.block ?_
      (repeat refine Sat.seq ?_)
      refine Sat.join2 (ι := Nat) (fun b9 => ⟨75, [(8, .op 3 b9 0), (7, .i .i64 i), (5, .os 1 a6 ts.length c6), (6, .os 2 a5 l.length c5), (2, .op 0 b2 0), (1, .i .u32 a)],
        [.box b2 25 [.sl p.ad p.es.length p.cap 5 (entRd p.es)], .row a6 3 ts.length c6 1 (intsA ts.toArray), .row a5 51 l.length c5 3 (owRd l), .box b9 31 (Ent.cs (optE (lkp a (ts.getD i 0) p.es)))]⟩) (fun _ => True) (fun hrest => ?_) ?_
      · (refine Sat.region_tree (.keep [1, 2, 3, 4, 0, 5] [10] (.alt 6 (.free 7 (.free 8 (.free 9 (.one 10 (.one 11 (.one 12 .done)))))) (.alt 10 (.one 6 (.one 7 (.free 8 (.free 9 (.one 11 (.one 12 .done)))))) .none))) (by kernel_rfl) (by kernel_rfl) (fun _ _ h => h) fun k hk => ?_; simp only [WOT, List.map_cons, List.map_nil, List.getD_cons_zero, List.getD_cons_succ]; simp -implicitDefEqProofs only [evr, id, seval, ent0, ent1, ent2, ent3, ent4, Nat.sub_zero, int_at, ow0, ow1, ow2, lkS, entS, Ent.cs, tupL, intRowA, WOT, evn])
        simp only [ht1]
        repeat' (first
        | (with_reducible refine And.intro ?_ ?_)
        | omega
        | (with_reducible intro b9)
        | (refine wcall_plain (refLookC F p.ad p.cap p.es h (by omega) a ha (ts.getD i 0)) (by rfl) (by rintro _ rfl; exact lkS_ok _) ?_
           rintro r rfl
           simp -implicitDefEqProofs only [evr, id, seval, ent0, ent1, ent2, ent3, ent4, Nat.sub_zero, int_at, ow0, ow1, ow2, lkS, entS, Ent.cs, tupL, intRowA, evn])
        | (refine hk _ ?_
           simp only [thenK]
           refine (hrest b9 trivial).le ?_
           simp -implicitDefEqProofs only [evr, id, seval, ent0, ent1, ent2, ent3, ent4, Nat.sub_zero, int_at, ow0, ow1, ow2, lkS, entS, Ent.cs, tupL, intRowA, evl, evn]
           done))
      rintro b9 -
      generalize hx1 : ts.getD i 0 = t1 at hstep ht1 ⊢
      generalize hx2 : ts.getD (i + 1) 0 = t2 at hstep ht2
      simp only [Ent.cs]
      have hpv : (optE (lkp a t1 p.es)).prov = pvd a t1 p.es := rfl
      rw [hpv]
      generalize pvd a t1 p.es = pv at hstep ⊢
      (repeat refine Sat.seq ?_)
      (refine Sat.region_k fun k hk => ?_; simp -implicitDefEqProofs only [evr, id, seval, ent0, ent1, ent2, ent3, ent4, Nat.sub_zero, int_at, ow0, ow1, ow2, lkS, entS, Ent.cs, tupL, intRowA, evn]; refine hk _ ?_; clear hk k; try show Sat _ _ _ _ _)
      (repeat refine Sat.seq ?_)
      refine Sat.region_qat (by kernel_rfl) (by kernel_rfl) ⟨75, [(48, .b (decide (goesOn l pv))), (10, .i .i64 l.length), (8, .op 3 b9 0), (7, .i .i64 i), (5, .os 1 a6 ts.length c6), (6, .os 2 a5 l.length c5), (2, .op 0 b2 0), (1, .i .u32 a)],
        [.box b2 25 [.sl p.ad p.es.length p.cap 5 (entRd p.es)], .row a6 3 ts.length c6 1 (intsA ts.toArray), .row a5 51 l.length c5 3 (owRd l), .box b9 31 [.i .u32 (optE (lkp a t1 p.es)).addr, .i .i64 (optE (lkp a t1 p.es)).len, .i .i64 pv, .i .i64 (optE (lkp a t1 p.es)).from_, .i .i64 (optE (lkp a t1 p.es)).to_]]⟩ (fun k hk => ?_) ?_
      · have e3 : 0 < l.length → IntKind.i64.wrap ((l.length : Int) - 1) = ((l.length - 1 : Nat) : Int) := fun h0 => by rw [w64 (by omega)]; omega
        rcases Nat.eq_zero_or_pos l.length with h0 | h0
        · simp -implicitDefEqProofs only [evr, id, seval, ent0, ent1, ent2, ent3, ent4, Nat.sub_zero, int_at, ow0, ow1, ow2, lkS, entS, Ent.cs, tupL, intRowA, evn]
          repeat' (first
          | (with_reducible refine And.intro ?_ ?_)
          | (with_reducible intro hh)
          | omega
          | (with_reducible refine hk _ ?_
             first
             | (have e9 : decide (goesOn l pv) = false := by
                  clear hk
                  apply decide_eq_false
                  unfold goesOn
                  rintro ⟨g1, g2⟩
                  omega
                simp only [e9]
                simp -implicitDefEqProofs only [evr, id, seval, ent0, ent1, ent2, ent3, ent4, Nat.sub_zero, int_at, ow0, ow1, ow2, lkS, entS, Ent.cs, tupL, intRowA, evl, evn]
                done)
             | (have e9 : decide (goesOn l pv) = ((l.getD (l.length - 1) default).prov == pv) := by
                  clear hk
                  apply Bool.eq_iff_iff.2
                  rw [decide_eq_true_eq, beq_iff_eq]
                  unfold goesOn
                  constructor
                  · exact fun h => h.2
                  · exact fun h => ⟨by omega, h⟩
                simp only [e9]
                simp -implicitDefEqProofs only [evr, id, seval, ent0, ent1, ent2, ent3, ent4, Nat.sub_zero, int_at, ow0, ow1, ow2, lkS, entS, Ent.cs, tupL, intRowA, evl, evn]
                done)))
        · have e4 := e3 h0
          simp -implicitDefEqProofs only [evr, id, seval, ent0, ent1, ent2, ent3, ent4, Nat.sub_zero, int_at, ow0, ow1, ow2, lkS, entS, Ent.cs, tupL, intRowA, e4, Int.toNat_natCast, evn]
          repeat' (first
          | (with_reducible refine And.intro ?_ ?_)
          | (with_reducible intro hh)
          | omega
          | (with_reducible refine hk _ ?_
             first
             | (have e9 : decide (goesOn l pv) = false := by
                  clear hk
                  apply decide_eq_false
                  unfold goesOn
                  rintro ⟨g1, g2⟩
                  omega
                simp only [e9]
                simp -implicitDefEqProofs only [evr, id, seval, ent0, ent1, ent2, ent3, ent4, Nat.sub_zero, int_at, ow0, ow1, ow2, lkS, entS, Ent.cs, tupL, intRowA, evl, evn]
                done)
             | (have e9 : decide (goesOn l pv) = ((l.getD (l.length - 1) default).prov == pv) := by
                  clear hk
                  apply Bool.eq_iff_iff.2
                  rw [decide_eq_true_eq, beq_iff_eq]
                  unfold goesOn
                  constructor
                  · exact fun h => h.2
                  · exact fun h => ⟨by omega, h⟩
                simp only [e9]
                simp -implicitDefEqProofs only [evr, id, seval, ent0, ent1, ent2, ent3, ent4, Nat.sub_zero, int_at, ow0, ow1, ow2, lkS, entS, Ent.cs, tupL, intRowA, evl, evn]
                done)))
      simp only [thenK]
      refine Sat.cond_b rfl (fun h3 => ?_) (fun h3 => ?_)
      · simp only [decide_eq_true_eq] at h3
        have h0 := h3.1
        have e4 : IntKind.i64.wrap ((l.length : Int) - 1) = ((l.length - 1 : Nat) : Int) := by rw [w64 (by omega)]; omega
        unfold hsStep at hstep
        rw [if_pos h3] at hstep
        (repeat refine Sat.seq ?_)
        refine Sat.region_k fun k hk => ?_
        simp -implicitDefEqProofs only [evr, id, seval, ent0, ent1, ent2, ent3, ent4, Nat.sub_zero, int_at, ow0, ow1, ow2, lkS, entS, Ent.cs, tupL, intRowA, e4, e2, Int.toNat_natCast, ht2, evn]
        refine ⟨by omega, by omega, by omega, by omega, hk _ ?_⟩
        simp only [thenK]
        refine Sat.exit ?_
        simp only [thenK, blockK, reduceIte]
        refine Sat.region_k fun k hk => ?_
        simp -implicitDefEqProofs only [evr, id, seval, ent0, ent1, ent2, ent3, ent4, Nat.sub_zero, int_at, ow0, ow1, ow2, lkS, entS, Ent.cs, tupL, intRowA, e2, evn]
        refine hk _ ?_
        simp only [thenK, blockK]
        refine ⟨(i + 1, a5, c5, l.set (l.length - 1) ⟨pv, (l.getD (l.length - 1) default).from_, t2⟩), ⟨by simp only; omega, by simp only; rw [hstep]⟩, by simp only; omega, ?_⟩
        simp only [List.length_set]
        simp -implicitDefEqProofs only [evr, id, seval, ent0, ent1, ent2, ent3, ent4, Nat.sub_zero, int_at, ow0, ow1, ow2, lkS, entS, Ent.cs, tupL, intRowA, evl, evn]
        have h8 := ow_set h0 t2
        rw [h3.2] at h8
        exact h8
      · simp only [decide_eq_false_iff_not] at h3
        unfold hsStep at hstep
        rw [if_neg h3] at hstep
        refine Sat.skip ?_
        simp only [thenK]
        (repeat refine Sat.seq ?_)
        (refine Sat.region_rows [⟨0, 60, 64, 0⟩, ⟨0, 61, 256, 0⟩, ⟨2, 62, 1152921504606846976, 1⟩, ⟨0, 63, 32, 0⟩, ⟨0, 64, 128, 0⟩, ⟨24, 65, 13835058055282163712, 0⟩, ⟨32, 66, 18446744073709551616, 1⟩, ⟨0, 67, 32, 0⟩, ⟨0, 68, 128, 0⟩, ⟨256, 69, 147573952589676412928, 0⟩, ⟨640, 70, 368934881474191032320, 0⟩, ⟨1024, 71, 590295810358705651712, 1⟩, ⟨2116, 72, 1219790951874044100608, 0⟩, ⟨4096, 73, 2361183241434822606848, 2⟩, ⟨8193, 74, 4722942943621948637184, 2⟩, ⟨32767, 7, 9444732965739290427392, 0⟩] [0, 1, 3, 4, 5, 7, 8, 9, 10, 2, 6, 11, 12] [(13, false), (14, false), (15, false)] [] (by kernel_rfl) (by kernel_rfl) (fun _ _ h => h) fun k hk => ?_; simp only [List.map_cons, List.map_nil, List.getD_cons_zero, List.getD_cons_succ, btseq_cons, btseq_free, btseq_nil]; simp -implicitDefEqProofs only [evr, id, seval, ent0, ent1, ent2, ent3, ent4, Nat.sub_zero, int_at, ow0, ow1, ow2, lkS, entS, Ent.cs, tupL, intRowA, evn])
        simp only [e2, Int.toNat_natCast, ht1, ht2]
        refine ⟨by omega, by omega, by omega, by omega, fun bl => ⟨⟨by unfold maxLen; omega, by omega⟩, fun a7 c7 => ?_⟩⟩
        refine hk _ ?_
        simp only [thenK, blockK]
        refine Sat.region_k fun k hk => ?_
        simp -implicitDefEqProofs only [evr, id, seval, ent0, ent1, ent2, ent3, ent4, Nat.sub_zero, int_at, ow0, ow1, ow2, lkS, entS, Ent.cs, tupL, intRowA, e2, evn]
        refine hk _ ?_
        simp only [thenK, blockK]
        refine ⟨(i + 1, a7, c7, l ++ [⟨pv, t1, t2⟩]), ⟨by simp only; omega, by simp only; rw [hstep]⟩, by simp only; omega, ?_⟩
        have e7 : (l ++ [(⟨pv, t1, t2⟩ : Owd)]).length = l.length + 1 := by simp
        rw [e7]
        simp -implicitDefEqProofs only [evr, id, seval, ent0, ent1, ent2, ent3, ent4, Nat.sub_zero, int_at, ow0, ow1, ow2, lkS, entS, Ent.cs, tupL, intRowA, evl, evn]
        exact ow_app l ⟨pv, t1, t2⟩
    · simp only [decide_eq_false_iff_not] at h2
      obtain rfl : i = ts.length - 1 := by omega
      refine Sat.exit ?_
      simp only [thenK, blockK, reduceIte]
      (repeat refine Sat.seq ?_)
      (refine Sat.region_k fun k hk => ?_; simp -implicitDefEqProofs only [evr, id, seval, ent0, ent1, ent2, ent3, ent4, Nat.sub_zero, int_at, ow0, ow1, ow2, lkS, entS, Ent.cs, tupL, intRowA, evn]; refine hk _ ?_; clear hk k; try show Sat _ _ _ _ _)
      refine Sat.ret ?_
      simp only [Tryz.results19, evr, id, seval, List.append_nil, Int.toNat_zero, Nat.sub_self, ent0, ent1, ent2, ent3, ent4, Nat.sub_zero, int_at, ow0, ow1, ow2, lkS, entS, Ent.cs, tupL, intRowA]
      rw [hv, ← hl]
      exact .inr ⟨_, _, rfl⟩
end Go.Proofs.YtepkbbmjbbnhnaaGreatDoor
