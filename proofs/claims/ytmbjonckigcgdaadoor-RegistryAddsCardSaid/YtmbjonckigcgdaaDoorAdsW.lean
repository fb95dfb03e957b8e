/- It is proved that the statement RegistryAdds holds for every input: adding an entry and removing it leads back, and the order of adding does not matter. No conditions. -/
import Derived.Test.YtmbjonckigcgdaaDoorAddM
import Derived.Test.YtmbjonckigcgdaaDoorRmoE
import Derived.Test.YtmbjonckigcgdaaDoorSmrE
import Derived.Test.YtmbjonckigcgdaaDoorAwrE
import Derived.Test.YtmbjonckigcgdaaDoorShRegistryAdds
set_option linter.unusedSimpArgs false
set_option linter.unusedVariables false
namespace Go.Proofs.YtmbjonckigcgdaaDoor
open Go.RowKit Eng
theorem slB_bytesA (a : Option Addr) (cap : Nat) (z : List Int) (hz : ∀ n ∈ z, (Lit.int .u8 n).wf = true) : isBytes (slB a cap z) :=
  ⟨a, z.length, cap, _, rfl, fun i hi => ⟨z.getD i 0, by have := bounds_u8 (hz _ (getD_mem (d := 0) hi)); omega, by have := bounds_u8 (hz _ (getD_mem (d := 0) hi)); omega, rfl⟩⟩
set_option maxHeartbeats 2000000 in
set_option maxRecDepth 100000 in
theorem addsC (a : Option Addr) (cap : Nat) (z : List Int) (hz : ∀ n ∈ z, (Lit.int .u8 n).wf = true) : Contract FrA Tryd.prog 6 [slB a cap z] (fun r => r = .b true) := by
  have hb := slB_bytesA a cap z hz
  refine contract_of Tryd.func6 rfl (by kernel_rfl) ?_
  simp only [Tryd.ntmps6, argEnv]
  (repeat refine Sat.seq ?_)
  (refine Sat.region_k fun k hk => ?_; simp -implicitDefEqProofs only [evr, id, seval, Nat.sub_zero, Option.map_none, ent0, ent1, ent2, ent3, ent4, regS, entS, Ent.cs, tupL, ptr, evn]; refine hk _ ?_; clear hk k; try show Sat _ _ _ _ _)
  (repeat refine Sat.seq ?_)
  (refine Sat.region_k fun k hk => ?_; simp -implicitDefEqProofs only [evr, id, seval, Nat.sub_zero, Option.map_none, ent0, ent1, ent2, ent3, ent4, regS, entS, Ent.cs, tupL, ptr, evn])
  refine wcall_plain awakeC rfl (by rintro _ rfl; exact ok_plain rfl) ?_
  rintro r rfl
  simp -implicitDefEqProofs only [evr, id, seval, Nat.sub_zero, Option.map_none, ent0, ent1, ent2, ent3, ent4, regS, entS, Ent.cs, tupL, ptr, evn]
  (refine hk _ ?_; clear hk k; try show Sat _ _ _ _ _)
  (repeat refine Sat.seq ?_)
  refine Sat.cond_b rfl (fun h => absurd h (by decide)) (fun _ => ?_)
  refine Sat.skip ?_
  simp only [thenK]
  (repeat refine Sat.seq ?_)
  (refine Sat.region_k fun k hk => ?_; simp -implicitDefEqProofs only [evr, id, seval, Nat.sub_zero, Option.map_none, ent0, ent1, ent2, ent3, ent4, regS, entS, Ent.cs, tupL, ptr, evn])
  refine wcall_make (rollC (slB a cap z) hb) ?_
  intro cb
  simp -implicitDefEqProofs only [evr, id, seval, Nat.sub_zero, Option.map_none, ent0, ent1, ent2, ent3, ent4, regS, entS, Ent.cs, tupL, ptr, evn]
  (refine hk _ ?_; clear hk k; try show Sat _ _ _ _ _)
  refine Sat.switchT (cb := cb) (id := 0) rfl ?_
  (repeat refine Sat.seq ?_)
  (refine Sat.region_k fun k hk => ?_; simp -implicitDefEqProofs only [evr, id, seval, Nat.sub_zero, Option.map_none, ent0, ent1, ent2, ent3, ent4, regS, entS, Ent.cs, tupL, ptr, evn])
  refine wcall_slice ((diceRegistryC cb 8 (by decide)).codesT) rfl rfl ?_
  rintro r ⟨ra, rc, es, rfl, hr, ho, hlen⟩
  simp -implicitDefEqProofs only [evr, id, seval, Nat.sub_zero, Option.map_none, ent0, ent1, ent2, ent3, ent4, regS, entS, Ent.cs, tupL, ptr, evn]
  refine wcall_plain ((diceEntryC cb).codesT) rfl (by rintro _ ⟨e, rfl, _⟩; exact entS_ok e) ?_
  rintro r ⟨e, rfl, heo, hee⟩
  simp -implicitDefEqProofs only [evr, id, seval, Nat.sub_zero, Option.map_none, ent0, ent1, ent2, ent3, ent4, regS, entS, Ent.cs, tupL, ptr, evn]
  refine wcall_plain ((diceEntryC cb).codesT) rfl (by rintro _ ⟨e, rfl, _⟩; exact entS_ok e) ?_
  rintro r ⟨f, rfl, hfo, hff⟩
  simp -implicitDefEqProofs only [evr, id, seval, Nat.sub_zero, Option.map_none, ent0, ent1, ent2, ent3, ent4, regS, entS, Ent.cs, tupL, ptr, evn]
  intro b4 b5 b6
  (refine hk _ ?_; clear hk k; try show Sat _ _ _ _ _)
  (repeat refine Sat.seq ?_)
  (refine Sat.region_k fun k hk => ?_; simp -implicitDefEqProofs only [evr, id, seval, Nat.sub_zero, Option.map_none, ent0, ent1, ent2, ent3, ent4, regS, entS, Ent.cs, tupL, ptr, evn])
  refine wcall_slice (addC _ ra rc es ho (by omega) e hee) (by simp -implicitDefEqProofs only [evr, id, seval, Nat.sub_zero, Option.map_none, ent0, ent1, ent2, ent3, ent4, regS, entS, Ent.cs, tupL, ptr, evn]; first | done | rfl) (by simp -implicitDefEqProofs only [evr, id, seval, Nat.sub_zero, Option.map_none, ent0, ent1, ent2, ent3, ent4, regS, entS, Ent.cs, tupL, ptr, evn]; first | done | rfl) ?_
  rintro r ⟨a1, c1, rfl⟩
  simp -implicitDefEqProofs only [evr, id, seval, Nat.sub_zero, Option.map_none, ent0, ent1, ent2, ent3, ent4, regS, entS, Ent.cs, tupL, ptr, evn]
  intro b7
  (refine hk _ ?_; clear hk k; try show Sat _ _ _ _ _)
  have hok := @addV_ok es e
  have her := @addV_err es e hr heo (by omega)
  have hrm := @add_rem es e
  have hcm := @add_comm es e f (by omega)
  have hx : (addV es e).2 = 0 → esOk (addV es e).1 ∧ (addV es e).1.length = es.length + 1 ∧ RegOk (addV es e).1 := fun h0 => by
    obtain ⟨_, _, _, _, g5, g6, g7⟩ := hok h0
    exact ⟨by rw [g5]; exact esOk_ins ho hee, g7, g6⟩
  clear hok
  generalize (addV es e).1 = x at *
  generalize (addV es e).2 = g at *
  (repeat refine Sat.seq ?_)
  (refine Sat.region_k fun k hk => ?_; simp -implicitDefEqProofs only [evr, id, seval, Nat.sub_zero, Option.map_none, ent0, ent1, ent2, ent3, ent4, regS, entS, Ent.cs, tupL, ptr, evn]; refine hk _ ?_; clear hk k; try show Sat _ _ _ _ _)
  (repeat refine Sat.seq ?_)
  refine Sat.cond_b rfl (fun h0 => ?_) (fun h0 => ?_)
  · have h1 : g ≠ 0 := by simpa using h0
    obtain ⟨h2, _⟩ := her h1
    subst h2
    (repeat refine Sat.seq ?_)
    (refine Sat.region_k fun k hk => ?_; simp -implicitDefEqProofs only [evr, id, seval, Nat.sub_zero, Option.map_none, ent0, ent1, ent2, ent3, ent4, regS, entS, Ent.cs, tupL, ptr, evn]; refine hk _ ?_; clear hk k; try show Sat _ _ _ _ _)
    refine Sat.ret ?_
    simp only [Tryd.results6, evr, id, seval, List.append_nil, Int.toNat_zero, Nat.sub_self, Nat.sub_zero, Option.map_none, ent0, ent1, ent2, ent3, ent4, regS, entS, Ent.cs, tupL, ptr]
    try rfl
  · have h1 : g = 0 := by simpa using h0
    subst h1
    obtain ⟨hxo, hxl, hxr⟩ := hx rfl
    have hrm := hrm rfl
    have hcm := hcm rfl
    refine Sat.skip ?_
    simp only [thenK]
    (repeat refine Sat.seq ?_)
    (refine Sat.region_k fun k hk => ?_; simp -implicitDefEqProofs only [evr, id, seval, Nat.sub_zero, Option.map_none, ent0, ent1, ent2, ent3, ent4, regS, entS, Ent.cs, tupL, ptr, evn])
    refine wcall_slice ((removeC _ a1 c1 x hxo (by omega) e.pr e.from_).of_sim (args := [.agg 1 fun j => [SV.sl a1 x.length c1 5 (entRd x)].getD j default, .agg 2 fun j => [SV.i .u32 (e.addr : Nat), .i .i64 e.len, .i .i64 e.prov, .i .i64 e.from_, .i .i64 e.to_].getD j default, .i .i64 e.from_]) ⟨sim_refl _, (ent_pr e).1, sim_refl _, trivial⟩) rfl (by simp -implicitDefEqProofs only [evr, id, seval, Nat.sub_zero, Option.map_none, ent0, ent1, ent2, ent3, ent4, regS, entS, Ent.cs, tupL, ptr, evn]) ?_
    rintro r ⟨a2, c2, rfl⟩
    rw [hrm]
    simp -implicitDefEqProofs only [evr, id, seval, Nat.sub_zero, Option.map_none, ent0, ent1, ent2, ent3, ent4, regS, entS, Ent.cs, tupL, ptr, evn]
    intro b9
    (refine hk _ ?_; clear hk k; try show Sat _ _ _ _ _)
    (repeat refine Sat.seq ?_)
    (refine Sat.region_k fun k hk => ?_; simp -implicitDefEqProofs only [evr, id, seval, Nat.sub_zero, Option.map_none, ent0, ent1, ent2, ent3, ent4, regS, entS, Ent.cs, tupL, ptr, evn])
    refine wcall_plain (refSameC _ a2 ra c2 rc es es (by omega)) (by simp -implicitDefEqProofs only [evr, id, seval, Nat.sub_zero, Option.map_none, ent0, ent1, ent2, ent3, ent4, regS, entS, Ent.cs, tupL, ptr, evn]; first | done | rfl) (by rintro _ rfl; exact ok_plain rfl) ?_
    rintro r rfl
    rw [decide_eq_true (rfl : es = es)]
    simp -implicitDefEqProofs only [evr, id, seval, Nat.sub_zero, Option.map_none, ent0, ent1, ent2, ent3, ent4, regS, entS, Ent.cs, tupL, ptr, evn]
    refine wcall_plain (regValidC _ a1 c1 x hxo) (by simp -implicitDefEqProofs only [evr, id, seval, Nat.sub_zero, Option.map_none, ent0, ent1, ent2, ent3, ent4, regS, entS, Ent.cs, tupL, ptr, evn]; first | done | rfl) (by rintro _ rfl; exact ok_plain rfl) ?_
    rintro r rfl
    rw [decide_eq_true hxr]
    simp -implicitDefEqProofs only [evr, id, seval, Nat.sub_zero, Option.map_none, ent0, ent1, ent2, ent3, ent4, regS, entS, Ent.cs, tupL, ptr, evn]
    (refine hk _ ?_; clear hk k; try show Sat _ _ _ _ _)
    (repeat refine Sat.seq ?_)
    refine Sat.cond_b rfl (fun h => absurd h (by decide)) (fun _ => ?_)
    refine Sat.skip ?_
    simp only [thenK]
    (repeat refine Sat.seq ?_)
    (refine Sat.region_k fun k hk => ?_; simp -implicitDefEqProofs only [evr, id, seval, Nat.sub_zero, Option.map_none, ent0, ent1, ent2, ent3, ent4, regS, entS, Ent.cs, tupL, ptr, evn])
    refine wcall_slice (addC _ a1 c1 x hxo (by omega) f hff) (by simp -implicitDefEqProofs only [evr, id, seval, Nat.sub_zero, Option.map_none, ent0, ent1, ent2, ent3, ent4, regS, entS, Ent.cs, tupL, ptr, evn]; first | done | rfl) (by simp -implicitDefEqProofs only [evr, id, seval, Nat.sub_zero, Option.map_none, ent0, ent1, ent2, ent3, ent4, regS, entS, Ent.cs, tupL, ptr, evn]; first | done | rfl) ?_
    rintro r ⟨a3, c3, rfl⟩
    simp -implicitDefEqProofs only [evr, id, seval, Nat.sub_zero, Option.map_none, ent0, ent1, ent2, ent3, ent4, regS, entS, Ent.cs, tupL, ptr, evn]
    intro b11
    (refine hk _ ?_; clear hk k; try show Sat _ _ _ _ _)
    (repeat refine Sat.seq ?_)
    (refine Sat.region_k fun k hk => ?_; simp -implicitDefEqProofs only [evr, id, seval, Nat.sub_zero, Option.map_none, ent0, ent1, ent2, ent3, ent4, regS, entS, Ent.cs, tupL, ptr, evn])
    refine wcall_slice (addC _ ra rc es ho (by omega) f hff) (by simp -implicitDefEqProofs only [evr, id, seval, Nat.sub_zero, Option.map_none, ent0, ent1, ent2, ent3, ent4, regS, entS, Ent.cs, tupL, ptr, evn]; first | done | rfl) (by simp -implicitDefEqProofs only [evr, id, seval, Nat.sub_zero, Option.map_none, ent0, ent1, ent2, ent3, ent4, regS, entS, Ent.cs, tupL, ptr, evn]; first | done | rfl) ?_
    rintro r ⟨a4, c4, rfl⟩
    simp -implicitDefEqProofs only [evr, id, seval, Nat.sub_zero, Option.map_none, ent0, ent1, ent2, ent3, ent4, regS, entS, Ent.cs, tupL, ptr, evn]
    intro b13
    (refine hk _ ?_; clear hk k; try show Sat _ _ _ _ _)
    have her2 := @addV_err x f hxr hfo (by omega)
    have hok3 := @addV_ok es f
    have hy : (addV es f).2 = 0 → esOk (addV es f).1 ∧ (addV es f).1.length = es.length + 1 := fun h0 => by
      obtain ⟨_, _, _, _, g5, g6, g7⟩ := hok3 h0
      exact ⟨by rw [g5]; exact esOk_ins ho hff, g7⟩
    have hza : (addV x f).2 = 0 → (addV x f).1.length = x.length + 1 := fun h0 => (addV_ok h0).2.2.2.2.2.2
    clear hok3
    generalize (addV x f).1 = ya at *
    generalize (addV x f).2 = gi at *
    generalize (addV es f).1 = yb at *
    generalize (addV es f).2 = gj at *
    by_cases hi0 : gi = 0
    · subst hi0
      obtain ⟨k0, k1, k2⟩ := hcm rfl
      subst k0
      obtain ⟨hyo, hyl⟩ := hy rfl
      have hzl := hza rfl
      (repeat refine Sat.seq ?_)
      (refine Sat.region_k fun k hk => ?_; simp -implicitDefEqProofs only [evr, id, seval, Nat.sub_zero, Option.map_none, ent0, ent1, ent2, ent3, ent4, regS, entS, Ent.cs, tupL, ptr, evn]; refine hk _ ?_; clear hk k; try show Sat _ _ _ _ _)
      (repeat refine Sat.seq ?_)
      refine Sat.cond_b rfl (fun h => absurd h (by decide)) (fun _ => ?_)
      refine Sat.skip ?_
      simp only [thenK]
      (repeat refine Sat.seq ?_)
      (refine Sat.region_k fun k hk => ?_; simp -implicitDefEqProofs only [evr, id, seval, Nat.sub_zero, Option.map_none, ent0, ent1, ent2, ent3, ent4, regS, entS, Ent.cs, tupL, ptr, evn])
      refine wcall_slice (addC _ a4 c4 yb hyo (by omega) e hee) (by simp -implicitDefEqProofs only [evr, id, seval, Nat.sub_zero, Option.map_none, ent0, ent1, ent2, ent3, ent4, regS, entS, Ent.cs, tupL, ptr, evn]; first | done | rfl) (by simp -implicitDefEqProofs only [evr, id, seval, Nat.sub_zero, Option.map_none, ent0, ent1, ent2, ent3, ent4, regS, entS, Ent.cs, tupL, ptr, evn]; first | done | rfl) ?_
      rintro r ⟨a5, c5, rfl⟩
      rw [k1]
      simp -implicitDefEqProofs only [evr, id, seval, Nat.sub_zero, Option.map_none, ent0, ent1, ent2, ent3, ent4, regS, entS, Ent.cs, tupL, ptr, evn]
      intro b15
      (refine hk _ ?_; clear hk k; try show Sat _ _ _ _ _)
      (repeat refine Sat.seq ?_)
      (refine Sat.region_k fun k hk => ?_; simp -implicitDefEqProofs only [evr, id, seval, Nat.sub_zero, Option.map_none, ent0, ent1, ent2, ent3, ent4, regS, entS, Ent.cs, tupL, ptr, evn])
      refine wcall_plain (refSameC _ a3 a5 c3 c5 ya (addV yb e).1 (by omega)) (by simp -implicitDefEqProofs only [evr, id, seval, Nat.sub_zero, Option.map_none, ent0, ent1, ent2, ent3, ent4, regS, entS, Ent.cs, tupL, ptr, evn]; first | done | rfl) (by rintro _ rfl; exact ok_plain rfl) ?_
      rintro r rfl
      rw [decide_eq_true k2]
      simp -implicitDefEqProofs only [evr, id, seval, Nat.sub_zero, Option.map_none, ent0, ent1, ent2, ent3, ent4, regS, entS, Ent.cs, tupL, ptr, evn]
      (refine hk _ ?_; clear hk k; try show Sat _ _ _ _ _)
      refine Sat.ret ?_
      simp only [Tryd.results6, evr, id, seval, List.append_nil, Int.toNat_zero, Nat.sub_self, Nat.sub_zero, Option.map_none, ent0, ent1, ent2, ent3, ent4, regS, entS, Ent.cs, tupL, ptr]
    · obtain ⟨h2, _⟩ := her2 hi0
      subst h2
      (repeat refine Sat.seq ?_)
      (refine Sat.region_k fun k hk => ?_; simp -implicitDefEqProofs only [evr, id, seval, Nat.sub_zero, Option.map_none, ent0, ent1, ent2, ent3, ent4, regS, entS, Ent.cs, tupL, ptr, evn]; refine hk _ ?_; clear hk k; try show Sat _ _ _ _ _)
      (repeat refine Sat.seq ?_)
      refine Sat.cond_tt rfl ?_
      (repeat refine Sat.seq ?_)
      (refine Sat.region_k fun k hk => ?_; simp -implicitDefEqProofs only [evr, id, seval, Nat.sub_zero, Option.map_none, ent0, ent1, ent2, ent3, ent4, regS, entS, Ent.cs, tupL, ptr, evn]; refine hk _ ?_; clear hk k; try show Sat _ _ _ _ _)
      refine Sat.ret ?_
      simp only [Tryd.results6, evr, id, seval, List.append_nil, Int.toNat_zero, Nat.sub_self, Nat.sub_zero, Option.map_none, ent0, ent1, ent2, ent3, ent4, regS, entS, Ent.cs, tupL, ptr]
      try rfl
theorem adds_holds : Rows.RegistryAddsCardSaid := registryAdds.card_of_walk fun v z w hL ⟨h, hz⟩ => by
  obtain ⟨a, cap, rfl, hok⟩ := slB_of h
  have hT : TxT w := laid_tab hL (by decide +kernel) (by simp [Rows.registryAddsRow]; rfl) (g := 0) (t := 140) (e := 126) (m := 20) (by kernel_rfl) (by kernel_rfl) (by kernel_rfl) (by kernel_rfl) (by kernel_rfl) (by kernel_rfl)
  exact walk_ofT (addsC a cap z hz) (tx_lt hT) hT (fun s hs => by rw [List.mem_singleton.1 hs]; exact hok)
end Go.Proofs.YtmbjonckigcgdaaDoor
