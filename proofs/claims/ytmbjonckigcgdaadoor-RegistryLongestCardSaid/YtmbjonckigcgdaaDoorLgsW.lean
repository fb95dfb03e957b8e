/- It is proved that the statement RegistryLongest holds for every input: the entry that is found applies, and none that applies is longer. No conditions. -/
import Derived.Test.YtmbjonckigcgdaaDoorLgsM
import Derived.Test.YtmbjonckigcgdaaDoorAwrE
import Derived.Test.YtmbjonckigcgdaaDoorDrgE
import Derived.Test.YtmbjonckigcgdaaDoorShRegistryLongest
set_option linter.unusedSimpArgs false
set_option linter.unusedVariables false
namespace Go.Proofs.YtmbjonckigcgdaaDoor
open Go.RowKit Eng
theorem slB_bytesR (a : Option Addr) (cap : Nat) (z : List Int) (hz : ∀ n ∈ z, (Lit.int .u8 n).wf = true) : isBytes (slB a cap z) :=
  ⟨a, z.length, cap, _, rfl, fun i hi => ⟨z.getD i 0, by have := bounds_u8 (hz _ (getD_mem (d := 0) hi)); omega, by have := bounds_u8 (hz _ (getD_mem (d := 0) hi)); omega, rfl⟩⟩
set_option maxHeartbeats 2000000 in
set_option maxRecDepth 100000 in
theorem longestC (a : Option Addr) (cap : Nat) (z : List Int) (hz : ∀ n ∈ z, (Lit.int .u8 n).wf = true) (u : Int) (hu0 : 0 ≤ u) (hu1 : u ≤ 65535) : Contract FrA Tryd.prog 3 [slB a cap z, .i .u16 u] (fun r => r = .b true) := by
  have hb := slB_bytesR a cap z hz
  have e0 : IntKind.i64.wrap u = u := w64 (by omega)
  refine contract_of Tryd.func3 rfl (by kernel_rfl) ?_
  simp only [Tryd.ntmps3, argEnv]
  (repeat refine Sat.seq ?_)
  (refine Sat.region_k fun k hk => ?_; simp -implicitDefEqProofs only [evr, id, seval, Nat.sub_zero, Option.map_none, ent0, ent1, ent2, ent3, ent4, regS, entS, Ent.cs, tupL, ptr, lkS, evn]; refine hk _ ?_; clear hk k; try show Sat _ _ _ _ _)
  (repeat refine Sat.seq ?_)
  (refine Sat.region_k fun k hk => ?_; simp -implicitDefEqProofs only [evr, id, seval, Nat.sub_zero, Option.map_none, ent0, ent1, ent2, ent3, ent4, regS, entS, Ent.cs, tupL, ptr, lkS, evn])
  refine wcall_plain awakeC rfl (by rintro _ rfl; exact ok_plain rfl) ?_
  rintro r rfl
  simp -implicitDefEqProofs only [evr, id, seval, Nat.sub_zero, Option.map_none, ent0, ent1, ent2, ent3, ent4, regS, entS, Ent.cs, tupL, ptr, lkS, evn]
  (refine hk _ ?_; clear hk k; try show Sat _ _ _ _ _)
  (repeat refine Sat.seq ?_)
  refine Sat.cond_b rfl (fun h => absurd h (by decide)) (fun _ => ?_)
  refine Sat.skip ?_
  simp only [thenK]
  (repeat refine Sat.seq ?_)
  (refine Sat.region_k fun k hk => ?_; simp -implicitDefEqProofs only [evr, id, seval, Nat.sub_zero, Option.map_none, ent0, ent1, ent2, ent3, ent4, regS, entS, Ent.cs, tupL, ptr, lkS, evn])
  refine wcall_make (rollC (slB a cap z) hb) ?_
  intro cb
  simp -implicitDefEqProofs only [evr, id, seval, Nat.sub_zero, Option.map_none, ent0, ent1, ent2, ent3, ent4, regS, entS, Ent.cs, tupL, ptr, lkS, evn]
  (refine hk _ ?_; clear hk k; try show Sat _ _ _ _ _)
  refine Sat.switchT (cb := cb) (id := 0) rfl ?_
  (repeat refine Sat.seq ?_)
  (refine Sat.region_k fun k hk => ?_; simp -implicitDefEqProofs only [evr, id, seval, Nat.sub_zero, Option.map_none, ent0, ent1, ent2, ent3, ent4, regS, entS, Ent.cs, tupL, ptr, lkS, evn])
  refine wcall_slice ((diceRegistryC cb 12 (by decide)).codesT) rfl rfl ?_
  rintro r ⟨ra, rc, es, rfl, hr, ho, hlen⟩
  simp -implicitDefEqProofs only [evr, id, seval, Nat.sub_zero, Option.map_none, ent0, ent1, ent2, ent3, ent4, regS, entS, Ent.cs, tupL, ptr, lkS, evn]
  refine wcall_plain ((addressC cb).codesT) rfl (by rintro _ ⟨x, rfl, _⟩; exact ok_plain rfl) ?_
  rintro r ⟨x, rfl, hx⟩
  simp -implicitDefEqProofs only [evr, id, seval, Nat.sub_zero, Option.map_none, ent0, ent1, ent2, ent3, ent4, regS, entS, Ent.cs, tupL, ptr, lkS, evn]
  intro b6
  (refine hk _ ?_; clear hk k; try show Sat _ _ _ _ _)
  have hax : 167772160 + x < 2 ^ 32 := by omega
  generalize 167772160 + x = ad at *
  (repeat refine Sat.seq ?_)
  (refine Sat.region_k fun k hk => ?_; simp -implicitDefEqProofs only [evr, id, seval, Nat.sub_zero, Option.map_none, ent0, ent1, ent2, ent3, ent4, regS, entS, Ent.cs, tupL, ptr, lkS, evn])
  simp only [e0]
  have ht0 : 0 ≤ u.tmod 1000 := Int.tmod_nonneg _ hu0
  generalize u.tmod 1000 = t at *
  (refine hk _ ?_; clear hk k; try show Sat _ _ _ _ _)
  (repeat refine Sat.seq ?_)
  (refine Sat.region_k fun k hk => ?_; simp -implicitDefEqProofs only [evr, id, seval, Nat.sub_zero, Option.map_none, ent0, ent1, ent2, ent3, ent4, regS, entS, Ent.cs, tupL, ptr, lkS, evn])
  refine wcall_plain (lookupC _ ra rc es ho (by omega) ad hax t) (by simp -implicitDefEqProofs only [evr, id, seval, Nat.sub_zero, Option.map_none, ent0, ent1, ent2, ent3, ent4, regS, entS, Ent.cs, tupL, ptr, lkS, evn]; first | done | rfl) (by rintro _ rfl; exact lkS_ok _) ?_
  rintro r rfl
  rw [lkV_eq hr]
  simp -implicitDefEqProofs only [evr, id, seval, Nat.sub_zero, Option.map_none, ent0, ent1, ent2, ent3, ent4, regS, entS, Ent.cs, tupL, ptr, lkS, evn]
  intro b9
  (refine hk _ ?_; clear hk k; try show Sat _ _ _ _ _)
  have hall := anyB_all ad t es
  have hap := @lkp_applies ad t es
  have hbo := optE_ok ho ad t
  have hlong := fun i => @lkp_longest ad t es i
  generalize lkp ad t es = b at *
  (repeat refine Sat.seq ?_)
  (refine Sat.region_k fun k hk => ?_; simp -implicitDefEqProofs only [evr, id, seval, Nat.sub_zero, Option.map_none, ent0, ent1, ent2, ent3, ent4, regS, entS, Ent.cs, tupL, ptr, lkS, evn]; refine hk _ ?_; clear hk k; try show Sat _ _ _ _ _)
  (repeat refine Sat.seq ?_)
  (refine Sat.region_k fun k hk => ?_; simp -implicitDefEqProofs only [evr, id, seval, Nat.sub_zero, Option.map_none, ent0, ent1, ent2, ent3, ent4, regS, entS, Ent.cs, tupL, ptr, lkS, evn]; refine hk _ ?_; clear hk k; try show Sat _ _ _ _ _)
  (repeat refine Sat.seq ?_)
  refine Sat.block ?_
  refine Sat.loop (ι := Nat) (fun i => ⟨100, [(11, .b (anyB ad t es i)), (36, .i .i64 i), (34, .sl ra es.length rc 5 (entRd es)), (35, .i .i64 es.length), (7, .i .u32 ad), (8, .i .i64 t), (9, .op 1 b9 0), (10, .b b.isSome)], [.box b6 29 [.sl ra es.length rc 5 (entRd es)], .box b9 37 [.i .u32 (optE b).addr, .i .i64 (optE b).len, .i .i64 (optE b).prov, .i .i64 (optE b).from_, .i .i64 (optE b).to_]]⟩) (fun i => i ≤ es.length) (fun i => es.length - i) 0 (Nat.zero_le _) (by simp -implicitDefEqProofs only [evr, id, seval, Nat.sub_zero, Option.map_none, ent0, ent1, ent2, ent3, ent4, regS, entS, Ent.cs, tupL, ptr, lkS, evl, evn]; try rfl) ?_
  rintro i hi
  (repeat refine Sat.seq ?_)
  (refine Sat.region_k fun k hk => ?_; simp -implicitDefEqProofs only [evr, id, seval, Nat.sub_zero, Option.map_none, ent0, ent1, ent2, ent3, ent4, regS, entS, Ent.cs, tupL, ptr, lkS, evn]; refine hk _ ?_; clear hk k; try show Sat _ _ _ _ _)
  (repeat refine Sat.seq ?_)
  refine Sat.cond_b rfl (fun h2 => ?_) (fun h2 => ?_)
  · simp only [decide_eq_true_eq] at h2
    have hlt : i < es.length := by omega
    have e1 : IntKind.i64.wrap ((i : Int) + 1) = ((i + 1 : Nat) : Int) := by rw [w64 (by omega)]; omega
    have hstep := anyB_step (a := ad) (t := t) hlt
    have hl := hlong i hlt
    have heo := esOk_at ho i
    refine Sat.skip ?_
    simp only [thenK]
    (repeat refine Sat.seq ?_)
    refine Sat.block ?_
    (repeat refine Sat.seq ?_)
    (refine Sat.region_k fun k hk => ?_; simp -implicitDefEqProofs only [evr, id, seval, Nat.sub_zero, Option.map_none, ent0, ent1, ent2, ent3, ent4, regS, entS, Ent.cs, tupL, ptr, lkS, evn])
    refine ⟨by omega, fun b13 => ?_⟩
    (refine hk _ ?_; clear hk k; try show Sat _ _ _ _ _)
    generalize es.getD i default = e at *
    (repeat refine Sat.seq ?_)
    refine Sat.region_at ⟨100, [(11, .b (anyB ad t es i)), (36, .i .i64 i), (34, .sl ra es.length rc 5 (entRd es)), (35, .i .i64 es.length), (7, .i .u32 ad), (8, .i .i64 t), (9, .op 1 b9 0), (10, .b b.isSome), (13, .op 2 b13 0), (14, .b (applies ad t e))], [.box b6 29 [.sl ra es.length rc 5 (entRd es)], .box b9 37 [.i .u32 (optE b).addr, .i .i64 (optE b).len, .i .i64 (optE b).prov, .i .i64 (optE b).from_, .i .i64 (optE b).to_], .box b13 37 [.i .u32 e.addr, .i .i64 e.len, .i .i64 e.prov, .i .i64 e.from_, .i .i64 e.to_]]⟩ (fun k hk => ?_) ?_
    · simp -implicitDefEqProofs only [evr, id, seval, Nat.sub_zero, Option.map_none, ent0, ent1, ent2, ent3, ent4, regS, entS, Ent.cs, tupL, ptr, lkS, evn]
      refine wcall_plain ((containsC _ e.pr heo ad hax).of_sim (args := [.agg 2 fun j => [SV.i .u32 (e.addr : Nat), .i .i64 e.len, .i .i64 e.prov, .i .i64 e.from_, .i .i64 e.to_].getD j default, .i .u32 ad]) ⟨(ent_pr e).1, sim_refl _, trivial⟩) (by simp -implicitDefEqProofs only [evr, id, seval, Nat.sub_zero, Option.map_none, ent0, ent1, ent2, ent3, ent4, regS, entS, Ent.cs, tupL, ptr, lkS, evn]) (by rintro _ rfl; exact ok_plain rfl) ?_
      rintro r rfl
      simp -implicitDefEqProofs only [evr, id, seval, Nat.sub_zero, Option.map_none, ent0, ent1, ent2, ent3, ent4, regS, entS, Ent.cs, tupL, ptr, lkS, evn]
      repeat' (first
        | (with_reducible refine And.intro ?_ ?_)
        | (with_reducible intro hh)
        | (with_reducible refine hk _ ?_
           first
           | (have e9 : applies ad t e = false := by
                clear hk
                rw [Bool.eq_false_iff]
                intro g
                rw [applies_iff] at g
                obtain ⟨g1, g2, g3⟩ := g
                first
                | (simp only [g1] at *; simp at *; done)
                | (simp only [decide_eq_false_iff_not] at *; omega)
              simp only [e9]
              simp -implicitDefEqProofs only [evr, id, seval, Nat.sub_zero, Option.map_none, ent0, ent1, ent2, ent3, ent4, regS, entS, Ent.cs, tupL, ptr, lkS, evl, evn]
              done)
           | (have e9 : applies ad t e = decide (t < e.to_) := by
                clear hk
                apply Bool.eq_iff_iff.2
                rw [applies_iff, decide_eq_true_eq]
                simp only [decide_eq_true_eq] at *
                exact ⟨fun g => g.2.2, fun g => ⟨by assumption, by assumption, g⟩⟩
              simp only [e9]
              simp -implicitDefEqProofs only [evr, id, seval, Nat.sub_zero, Option.map_none, ent0, ent1, ent2, ent3, ent4, regS, entS, Ent.cs, tupL, ptr, lkS, evl, evn]
              done)))
    (repeat refine Sat.seq ?_)
    refine Sat.region_at ⟨100, [(11, .b (anyB ad t es (i + 1))), (36, .i .i64 i), (34, .sl ra es.length rc 5 (entRd es)), (35, .i .i64 es.length), (7, .i .u32 ad), (8, .i .i64 t), (9, .op 1 b9 0), (10, .b b.isSome), (13, .op 2 b13 0), (14, .b (applies ad t e))], [.box b6 29 [.sl ra es.length rc 5 (entRd es)], .box b9 37 [.i .u32 (optE b).addr, .i .i64 (optE b).len, .i .i64 (optE b).prov, .i .i64 (optE b).from_, .i .i64 (optE b).to_], .box b13 37 [.i .u32 e.addr, .i .i64 e.len, .i .i64 e.prov, .i .i64 e.from_, .i .i64 e.to_]]⟩ (fun k hk => ?_) ?_
    · simp -implicitDefEqProofs only [evr, id, seval, Nat.sub_zero, Option.map_none, ent0, ent1, ent2, ent3, ent4, regS, entS, Ent.cs, tupL, ptr, lkS, evn]
      refine ⟨fun hA => ?_, fun hA => ?_⟩
      · rw [hA, Bool.true_or] at hstep
        refine hk _ ?_
        simp only [hstep]
        simp -implicitDefEqProofs only [evr, id, seval, Nat.sub_zero, Option.map_none, ent0, ent1, ent2, ent3, ent4, regS, entS, Ent.cs, tupL, ptr, lkS, evl, evn]
        done
      · rw [hA, Bool.false_or] at hstep
        refine hk _ ?_
        simp only [hstep]
        simp -implicitDefEqProofs only [evr, id, seval, Nat.sub_zero, Option.map_none, ent0, ent1, ent2, ent3, ent4, regS, entS, Ent.cs, tupL, ptr, lkS, evl, evn]
        done
    (repeat refine Sat.seq ?_)
    refine Sat.region_at ⟨100, [(11, .b (anyB ad t es (i + 1))), (36, .i .i64 i), (34, .sl ra es.length rc 5 (entRd es)), (35, .i .i64 es.length), (7, .i .u32 ad), (8, .i .i64 t), (9, .op 1 b9 0), (10, .b b.isSome), (73, .b false)], [.box b6 29 [.sl ra es.length rc 5 (entRd es)], .box b9 37 [.i .u32 (optE b).addr, .i .i64 (optE b).len, .i .i64 (optE b).prov, .i .i64 (optE b).from_, .i .i64 (optE b).to_]]⟩ (fun k hk => ?_) ?_
    · simp -implicitDefEqProofs only [evr, id, seval, Nat.sub_zero, Option.map_none, ent0, ent1, ent2, ent3, ent4, regS, entS, Ent.cs, tupL, ptr, lkS, evn]
      repeat' (first
        | (with_reducible refine And.intro ?_ ?_)
        | (with_reducible intro hh)
        | (with_reducible refine hk _ ?_
           first
           | (simp -implicitDefEqProofs only [evr, id, seval, Nat.sub_zero, Option.map_none, ent0, ent1, ent2, ent3, ent4, regS, entS, Ent.cs, tupL, ptr, lkS, evl, evn]
              done)
           | (exfalso
              clear hk
              obtain ⟨g3, g4⟩ := hl (by assumption)
              simp_all
              done)
           | (obtain ⟨g3, g4⟩ := hl (by assumption)
              have e9 : decide ((optE b).len < e.len) = false := decide_eq_false (by omega)
              simp only [e9]
              simp -implicitDefEqProofs only [evr, id, seval, Nat.sub_zero, Option.map_none, ent0, ent1, ent2, ent3, ent4, regS, entS, Ent.cs, tupL, ptr, lkS, evl, evn]
              done)))
    refine Sat.cond_b rfl (fun h => absurd h (by decide)) (fun _ => ?_)
    refine Sat.skip ?_
    simp only [thenK, blockK, reduceIte]
    refine Sat.region_k fun k hk => ?_
    simp -implicitDefEqProofs only [evr, id, seval, Nat.sub_zero, Option.map_none, ent0, ent1, ent2, ent3, ent4, regS, entS, Ent.cs, tupL, ptr, lkS, e1, evn]
    refine hk _ ?_
    simp only [thenK, blockK]
    refine ⟨i + 1, by omega, by omega, ?_⟩
    simp -implicitDefEqProofs only [evr, id, seval, Nat.sub_zero, Option.map_none, ent0, ent1, ent2, ent3, ent4, regS, entS, Ent.cs, tupL, ptr, lkS, evl, evn]
  · simp only [decide_eq_false_iff_not] at h2
    obtain rfl : i = es.length := by omega
    refine Sat.exit ?_
    simp only [thenK, blockK, reduceIte]
    rw [hall]
    (repeat refine Sat.seq ?_)
    refine Sat.region_at ⟨100, [(4, .b true)], []⟩ (fun k hk => ?_) ?_
    · simp -implicitDefEqProofs only [evr, id, seval, Nat.sub_zero, Option.map_none, ent0, ent1, ent2, ent3, ent4, regS, entS, Ent.cs, tupL, ptr, lkS, beq_self_eq_true, evn]
      have hcon := (containsC (Frm.codesT cb txN TxT tx_low) (optE b).pr hbo ad hax).of_sim (args := [.agg 2 fun j => [SV.i .u32 ((optE b).addr : Nat), .i .i64 (optE b).len, .i .i64 (optE b).prov, .i .i64 (optE b).from_, .i .i64 (optE b).to_].getD j default, .i .u32 ad]) ⟨(ent_pr (optE b)).1, sim_refl _, trivial⟩
      refine ⟨fun g => ?_, fun g => ?_⟩
      · refine hk _ ?_
        simp -implicitDefEqProofs only [evr, id, seval, Nat.sub_zero, Option.map_none, ent0, ent1, ent2, ent3, ent4, regS, entS, Ent.cs, tupL, ptr, lkS, evl, evn]
        done
      · have g9 : b.isSome = true := by simpa using g
        obtain ⟨g1, g2⟩ := hap g9
        obtain ⟨g3, g4, g5⟩ := applies_iff.1 g1
        refine wcall_plain hcon (by simp -implicitDefEqProofs only [evr, id, seval, Nat.sub_zero, Option.map_none, ent0, ent1, ent2, ent3, ent4, regS, entS, Ent.cs, tupL, ptr, lkS, evn]) (by rintro _ rfl; exact ok_plain rfl) ?_
        rintro r rfl
        simp only [g3, evr, id, seval, List.append_nil, Int.toNat_zero, Nat.sub_self, Nat.sub_zero, Option.map_none, ent0, ent1, ent2, ent3, ent4, regS, entS, Ent.cs, tupL, ptr, lkS, decide_eq_true g4, decide_eq_true g5]
        refine hk _ ?_
        simp -implicitDefEqProofs only [evr, id, seval, Nat.sub_zero, Option.map_none, ent0, ent1, ent2, ent3, ent4, regS, entS, Ent.cs, tupL, ptr, lkS, evl, evn]
        done
    refine Sat.ret ?_
    simp only [Tryd.results3, evr, id, seval, List.append_nil, Int.toNat_zero, Nat.sub_self, Nat.sub_zero, Option.map_none, ent0, ent1, ent2, ent3, ent4, regS, entS, Ent.cs, tupL, ptr, lkS]
theorem longest_holds : Rows.RegistryLongestCardSaid := registryLongest.card_of_walk fun v z u w hL ⟨h, hz⟩ hu => by
  obtain ⟨a, cap, rfl, hok⟩ := slB_of h
  have k := bounds_u16 hu
  have hT : TxT w := laid_tab hL (by decide +kernel) (by simp [Rows.registryLongestRow]; rfl) (g := 0) (t := 140) (e := 126) (m := 20) (by kernel_rfl) (by kernel_rfl) (by kernel_rfl) (by kernel_rfl) (by kernel_rfl) (by kernel_rfl)
  exact walk_ofT (longestC a cap z hz u (by omega) (by omega)) (tx_lt hT) hT (fun s hs => by
    simp only [List.mem_cons, List.mem_singleton, List.not_mem_nil, or_false] at hs
    rcases hs with rfl | rfl
    · exact hok
    · trivial)
end Go.Proofs.YtmbjonckigcgdaaDoor
