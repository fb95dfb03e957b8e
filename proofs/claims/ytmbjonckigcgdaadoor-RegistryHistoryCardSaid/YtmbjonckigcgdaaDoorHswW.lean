/- It is proved that the statement RegistryHistory holds for every input: the history is whole, without neighbours of one provider, and right at each time; two registries differ exactly at the times of Changed. No conditions. -/
import Derived.Test.YtmbjonckigcgdaaDoorChgM
import Derived.Test.YtmbjonckigcgdaaDoorLgsM
import Derived.Test.YtmbjonckigcgdaaDoorAwrE
import Derived.Test.YtmbjonckigcgdaaDoorDrgE
import Derived.Test.YtmbjonckigcgdaaDoorShRegistryHistory
set_option linter.unusedSimpArgs false
set_option linter.unusedVariables false
namespace Go.Proofs.YtmbjonckigcgdaaDoor
open Go.RowKit Eng
theorem slB_bytesH (a : Option Addr) (cap : Nat) (z : List Int) (hz : ∀ n ∈ z, (Lit.int .u8 n).wf = true) : isBytes (slB a cap z) :=
  ⟨a, z.length, cap, _, rfl, fun i hi => ⟨z.getD i 0, by have := bounds_u8 (hz _ (getD_mem (d := 0) hi)); omega, by have := bounds_u8 (hz _ (getD_mem (d := 0) hi)); omega, rfl⟩⟩
theorem prov_pvd {es : List Ent} (h : RegOk es) (a : Nat) (t : Int) : (optE (lkV a t es)).prov = pvd a t es := by rw [lkV_eq h]; rfl
set_option maxHeartbeats 2000000 in
set_option maxRecDepth 100000 in
theorem historyLawC (a : Option Addr) (cap : Nat) (z : List Int) (hz : ∀ n ∈ z, (Lit.int .u8 n).wf = true) (u : Int) (hu0 : 0 ≤ u) (hu1 : u ≤ 65535) : Contract FrA Tryd.prog 5 [slB a cap z, .i .u16 u] (fun r => r = .b true) := by
  have hb := slB_bytesH a cap z hz
  have e0 : IntKind.i64.wrap u = u := w64 (by omega)
  refine contract_of Tryd.func5 rfl (by kernel_rfl) ?_
  simp only [Tryd.ntmps5, argEnv]
  (repeat refine Sat.seq ?_)
  (refine Sat.region_k fun k hk => ?_; simp -implicitDefEqProofs only [evr, id, seval, Nat.sub_zero, Option.map_none, ent0, ent1, ent2, ent3, ent4, regS, entS, Ent.cs, tupL, ptr, RgP.s, ow0, ow1, ow2, iv0, iv1, evn]; refine hk _ ?_; clear hk k; try show Sat _ _ _ _ _)
  (repeat refine Sat.seq ?_)
  (refine Sat.region_k fun k hk => ?_; simp -implicitDefEqProofs only [evr, id, seval, Nat.sub_zero, Option.map_none, ent0, ent1, ent2, ent3, ent4, regS, entS, Ent.cs, tupL, ptr, RgP.s, ow0, ow1, ow2, iv0, iv1, evn])
  refine wcall_plain awakeC rfl (by rintro _ rfl; exact ok_plain rfl) ?_
  rintro r rfl
  simp -implicitDefEqProofs only [evr, id, seval, Nat.sub_zero, Option.map_none, ent0, ent1, ent2, ent3, ent4, regS, entS, Ent.cs, tupL, ptr, RgP.s, ow0, ow1, ow2, iv0, iv1, evn]
  (refine hk _ ?_; clear hk k; try show Sat _ _ _ _ _)
  (repeat refine Sat.seq ?_)
  refine Sat.cond_b rfl (fun h => absurd h (by decide)) (fun _ => ?_)
  refine Sat.skip ?_
  simp only [thenK]
  (repeat refine Sat.seq ?_)
  (refine Sat.region_k fun k hk => ?_; simp -implicitDefEqProofs only [evr, id, seval, Nat.sub_zero, Option.map_none, ent0, ent1, ent2, ent3, ent4, regS, entS, Ent.cs, tupL, ptr, RgP.s, ow0, ow1, ow2, iv0, iv1, evn])
  refine wcall_make (rollC (slB a cap z) hb) ?_
  intro cb
  simp -implicitDefEqProofs only [evr, id, seval, Nat.sub_zero, Option.map_none, ent0, ent1, ent2, ent3, ent4, regS, entS, Ent.cs, tupL, ptr, RgP.s, ow0, ow1, ow2, iv0, iv1, evn]
  (refine hk _ ?_; clear hk k; try show Sat _ _ _ _ _)
  refine Sat.switchT (cb := cb) (id := 0) rfl ?_
  (repeat refine Sat.seq ?_)
  (refine Sat.region_k fun k hk => ?_; simp -implicitDefEqProofs only [evr, id, seval, Nat.sub_zero, Option.map_none, ent0, ent1, ent2, ent3, ent4, regS, entS, Ent.cs, tupL, ptr, RgP.s, ow0, ow1, ow2, iv0, iv1, evn])
  refine wcall_slice ((diceRegistryC cb 10 (by decide)).codesT) rfl rfl ?_
  rintro r ⟨ra, rc, es, rfl, hr, ho, hlen⟩
  simp -implicitDefEqProofs only [evr, id, seval, Nat.sub_zero, Option.map_none, ent0, ent1, ent2, ent3, ent4, regS, entS, Ent.cs, tupL, ptr, RgP.s, ow0, ow1, ow2, iv0, iv1, evn]
  refine wcall_slice ((diceRegistryC cb 10 (by decide)).codesT) rfl rfl ?_
  rintro r ⟨qa, qc, fs, rfl, hr2, ho2, hlen2⟩
  simp -implicitDefEqProofs only [evr, id, seval, Nat.sub_zero, Option.map_none, ent0, ent1, ent2, ent3, ent4, regS, entS, Ent.cs, tupL, ptr, RgP.s, ow0, ow1, ow2, iv0, iv1, evn]
  refine wcall_plain ((addressC cb).codesT) rfl (by rintro _ ⟨x, rfl, _⟩; exact ok_plain rfl) ?_
  rintro r ⟨x, rfl, hx⟩
  simp -implicitDefEqProofs only [evr, id, seval, Nat.sub_zero, Option.map_none, ent0, ent1, ent2, ent3, ent4, regS, entS, Ent.cs, tupL, ptr, RgP.s, ow0, ow1, ow2, iv0, iv1, evn]
  intro b6 b7
  (refine hk _ ?_; clear hk k; try show Sat _ _ _ _ _)
  have hax : 167772160 + x < 2 ^ 32 := by omega
  generalize 167772160 + x = ad at *
  (repeat refine Sat.seq ?_)
  (refine Sat.region_k fun k hk => ?_; simp -implicitDefEqProofs only [evr, id, seval, Nat.sub_zero, Option.map_none, ent0, ent1, ent2, ent3, ent4, regS, entS, Ent.cs, tupL, ptr, RgP.s, ow0, ow1, ow2, iv0, iv1, evn])
  refine wcall_slice (historyC _ ⟨ra, rc, es⟩ ho (show es.length ≤ 1000000 by omega) ad hax) rfl (by simp -implicitDefEqProofs only [evr, id, seval, Nat.sub_zero, Option.map_none, ent0, ent1, ent2, ent3, ent4, regS, entS, Ent.cs, tupL, ptr, RgP.s, ow0, ow1, ow2, iv0, iv1, evn]; first | done | rfl) ?_
  rintro r ⟨a9, c9, rfl⟩
  obtain ⟨hk, hpos⟩ := histL_ok (a := ad) (p := ⟨ra, rc, es⟩) hr
  have hle : (histL ad ⟨ra, rc, es⟩).length ≤ 100000 := by
    unfold histL
    rw [if_pos (show RegOk (RgP.mk ra rc es).es from hr)]
    have h1 := hist_len ad es (timesL ad [⟨ra, rc, es⟩]) ((timesL ad [⟨ra, rc, es⟩]).length - 1)
    have h2 := timesL_len ad [⟨ra, rc, es⟩] (fun r hr => by rw [List.mem_singleton.1 hr]; exact ⟨ho, show es.length ≤ 1024 by omega⟩)
    simp only [List.length_singleton] at h2
    show (hist ad es _ _).length ≤ _
    omega
  have hkf : HOk (fun t => pvd ad t es) 1125899906842624 (histL ad ⟨ra, rc, es⟩) := hk
  clear hk
  generalize histL ad ⟨ra, rc, es⟩ = hs at *
  simp -implicitDefEqProofs only [evr, id, seval, Nat.sub_zero, Option.map_none, ent0, ent1, ent2, ent3, ent4, regS, entS, Ent.cs, tupL, ptr, RgP.s, ow0, ow1, ow2, iv0, iv1, evn]
  (refine hk _ ?_; clear hk k; try show Sat _ _ _ _ _)
  obtain ⟨hend0, hend1⟩ := hkf.ends hpos
  have e1 : IntKind.i64.wrap ((hs.length : Int) - 1) = ((hs.length - 1 : Nat) : Int) := by rw [w64 (by omega)]; omega
  have el : ((hs.length : Int) == 0) = false := by rw [beq_eq_false_iff_ne]; omega
  have ef : ((hs.getD 0 default).from_ != 0) = false := by rw [hend0]; rfl
  have et : ((hs.getD (hs.length - 1) default).to_ != 1125899906842624) = false := by rw [hend1]; rfl
  (repeat refine Sat.seq ?_)
  (refine Sat.region_k fun k hk => ?_; simp -implicitDefEqProofs only [evr, id, seval, Nat.sub_zero, Option.map_none, ent0, ent1, ent2, ent3, ent4, regS, entS, Ent.cs, tupL, ptr, RgP.s, ow0, ow1, ow2, iv0, iv1, evn])
  simp -implicitDefEqProofs only [evr, id, seval, Nat.sub_zero, Option.map_none, ent0, ent1, ent2, ent3, ent4, regS, entS, Ent.cs, tupL, ptr, RgP.s, ow0, ow1, ow2, iv0, iv1, el, ef, et, e1, Int.toNat_natCast, Bool.not_true, Bool.not_false, evn]
  refine ⟨by omega, by omega, ?_⟩
  (refine hk _ ?_; clear hk k; try show Sat _ _ _ _ _)
  (repeat refine Sat.seq ?_)
  refine Sat.cond_b rfl (fun h => absurd h (by decide)) (fun _ => ?_)
  refine Sat.skip ?_
  simp only [thenK]
  (repeat refine Sat.seq ?_)
  (refine Sat.region_k fun k hk => ?_; simp -implicitDefEqProofs only [evr, id, seval, Nat.sub_zero, Option.map_none, ent0, ent1, ent2, ent3, ent4, regS, entS, Ent.cs, tupL, ptr, RgP.s, ow0, ow1, ow2, iv0, iv1, evn])
  simp only [e0]
  have ht0 : 0 ≤ u.tmod 1000 := Int.tmod_nonneg _ hu0
  have ht1 : u.tmod 1000 < 1000 := Int.tmod_lt_of_pos _ (by decide)
  generalize u.tmod 1000 = t at *
  (refine hk _ ?_; clear hk k; try show Sat _ _ _ _ _)
  (repeat refine Sat.seq ?_)
  (refine Sat.region_k fun k hk => ?_; simp -implicitDefEqProofs only [evr, id, seval, Nat.sub_zero, Option.map_none, ent0, ent1, ent2, ent3, ent4, regS, entS, Ent.cs, tupL, ptr, RgP.s, ow0, ow1, ow2, iv0, iv1, evn]; refine hk _ ?_; clear hk k; try show Sat _ _ _ _ _)
  (repeat refine Sat.seq ?_)
  refine Sat.block ?_
  refine Sat.loop (ι := Nat) (fun i => ⟨177, [(55, .i .i64 i), (53, .sl a9 hs.length c9 3 (owRd hs)), (54, .i .i64 hs.length), (6, .op 0 b6 0), (7, .op 1 b7 0), (8, .i .u32 ad), (9, .sl a9 hs.length c9 3 (owRd hs)), (10, .i .i64 t)], [.box b6 29 [.sl ra es.length rc 5 (entRd es)], .box b7 29 [.sl qa fs.length qc 5 (entRd fs)]]⟩) (fun i => i ≤ hs.length) (fun i => hs.length - i) 0 (Nat.zero_le _) (by simp -implicitDefEqProofs only [evr, id, seval, Nat.sub_zero, Option.map_none, ent0, ent1, ent2, ent3, ent4, regS, entS, Ent.cs, tupL, ptr, RgP.s, ow0, ow1, ow2, iv0, iv1, evl, evn]; try rfl) ?_
  rintro i hi
  (repeat refine Sat.seq ?_)
  (refine Sat.region_k fun k hk => ?_; simp -implicitDefEqProofs only [evr, id, seval, Nat.sub_zero, Option.map_none, ent0, ent1, ent2, ent3, ent4, regS, entS, Ent.cs, tupL, ptr, RgP.s, ow0, ow1, ow2, iv0, iv1, evn]; refine hk _ ?_; clear hk k; try show Sat _ _ _ _ _)
  (repeat refine Sat.seq ?_)
  refine Sat.cond_b rfl (fun h2 => ?_) (fun h2 => ?_)
  · simp only [decide_eq_true_eq] at h2
    have hlt : i < hs.length := by omega
    have e2 : IntKind.i64.wrap ((i : Int) + 1) = ((i + 1 : Nat) : Int) := by rw [w64 (by omega)]; omega
    obtain ⟨g1, g2, g3⟩ := hkf.each i hlt
    have g4 := g3 t
    refine Sat.skip ?_
    simp only [thenK]
    (repeat refine Sat.seq ?_)
    refine Sat.block ?_
    (repeat refine Sat.seq ?_)
    (refine Sat.region_k fun k hk => ?_; simp -implicitDefEqProofs only [evr, id, seval, Nat.sub_zero, Option.map_none, ent0, ent1, ent2, ent3, ent4, regS, entS, Ent.cs, tupL, ptr, RgP.s, ow0, ow1, ow2, iv0, iv1, evn])
    refine ⟨by omega, fun b12 => ?_⟩
    (refine hk _ ?_; clear hk k; try show Sat _ _ _ _ _)
    generalize hx9 : hs.getD i default = x at *
    clear g3
    (repeat refine Sat.seq ?_)
    refine Sat.region_qat (by kernel_rfl) (by kernel_rfl) ⟨177, [(111, .b false), (55, .i .i64 i), (53, .sl a9 hs.length c9 3 (owRd hs)), (54, .i .i64 hs.length), (6, .op 0 b6 0), (7, .op 1 b7 0), (8, .i .u32 ad), (9, .sl a9 hs.length c9 3 (owRd hs)), (10, .i .i64 t)], [.box b6 29 [.sl ra es.length rc 5 (entRd es)], .box b7 29 [.sl qa fs.length qc 5 (entRd fs)]]⟩ (fun k hk => ?_) ?_
    · have hprov := providerC Frm.nil ra rc es ho (by omega) ad hax t
      rw [prov_pvd hr] at hprov
      have e3 : 0 < i → IntKind.i64.wrap ((i : Int) - 1) = ((i - 1 : Nat) : Int) := fun h0 => by rw [w64 (by omega)]; omega
      have d1 : decide (x.to_ ≤ x.from_) = false := decide_eq_false (by omega)
      rcases Nat.eq_zero_or_pos i with h0 | h0
      · have d2 : decide (0 < (i : Int)) = false := decide_eq_false (by omega)
        simp -implicitDefEqProofs only [evr, id, seval, Nat.sub_zero, Option.map_none, ent0, ent1, ent2, ent3, ent4, regS, entS, Ent.cs, tupL, ptr, RgP.s, ow0, ow1, ow2, iv0, iv1, d1, d2, evn]
        refine ⟨fun k1 => ⟨fun k2 => ?_, fun k2 => ?_⟩, fun k1 => ?_⟩
        · have hp2 := hprov
          rw [show pvd ad t es = x.prov from g4 k1 k2] at hp2
          refine qcall hp2 (by simp -implicitDefEqProofs only [evr, id, seval, Nat.sub_zero, Option.map_none, ent0, ent1, ent2, ent3, ent4, regS, entS, Ent.cs, tupL, ptr, RgP.s, ow0, ow1, ow2, iv0, iv1, evn]; first | done | rfl) (ok_plain rfl) ?_
          simp -implicitDefEqProofs only [evr, id, seval, Nat.sub_zero, Option.map_none, ent0, ent1, ent2, ent3, ent4, regS, entS, Ent.cs, tupL, ptr, RgP.s, ow0, ow1, ow2, iv0, iv1, bne_self_eq_false, evn]
          refine hk _ ?_
          simp -implicitDefEqProofs only [evr, id, seval, Nat.sub_zero, Option.map_none, ent0, ent1, ent2, ent3, ent4, regS, entS, Ent.cs, tupL, ptr, RgP.s, ow0, ow1, ow2, iv0, iv1, evl, evn]
          done
        · refine hk _ ?_
          simp -implicitDefEqProofs only [evr, id, seval, Nat.sub_zero, Option.map_none, ent0, ent1, ent2, ent3, ent4, regS, entS, Ent.cs, tupL, ptr, RgP.s, ow0, ow1, ow2, iv0, iv1, evl, evn]
          done
        · refine hk _ ?_
          simp -implicitDefEqProofs only [evr, id, seval, Nat.sub_zero, Option.map_none, ent0, ent1, ent2, ent3, ent4, regS, entS, Ent.cs, tupL, ptr, RgP.s, ow0, ow1, ow2, iv0, iv1, evl, evn]
          done
      · have d2 : decide (0 < (i : Int)) = true := decide_eq_true (by omega)
        obtain ⟨g5, g6⟩ := g2 h0
        have d3 : ((hs.getD (i - 1) default).to_ != x.from_) = false := by rw [g5]; simp
        have d4 : ((hs.getD (i - 1) default).prov == x.prov) = false := by rw [beq_eq_false_iff_ne]; exact g6
        have e4 := e3 h0
        simp -implicitDefEqProofs only [evr, id, seval, Nat.sub_zero, Option.map_none, ent0, ent1, ent2, ent3, ent4, regS, entS, Ent.cs, tupL, ptr, RgP.s, ow0, ow1, ow2, iv0, iv1, d1, d2, d3, d4, e4, Int.toNat_natCast, evn]
        refine ⟨by omega, by omega, fun k1 => ⟨fun k2 => ?_, fun k2 => ?_⟩, fun k1 => ?_⟩
        · have hp2 := hprov
          rw [show pvd ad t es = x.prov from g4 k1 k2] at hp2
          refine qcall hp2 (by simp -implicitDefEqProofs only [evr, id, seval, Nat.sub_zero, Option.map_none, ent0, ent1, ent2, ent3, ent4, regS, entS, Ent.cs, tupL, ptr, RgP.s, ow0, ow1, ow2, iv0, iv1, evn]; first | done | rfl) (ok_plain rfl) ?_
          simp -implicitDefEqProofs only [evr, id, seval, Nat.sub_zero, Option.map_none, ent0, ent1, ent2, ent3, ent4, regS, entS, Ent.cs, tupL, ptr, RgP.s, ow0, ow1, ow2, iv0, iv1, bne_self_eq_false, evn]
          refine hk _ ?_
          simp -implicitDefEqProofs only [evr, id, seval, Nat.sub_zero, Option.map_none, ent0, ent1, ent2, ent3, ent4, regS, entS, Ent.cs, tupL, ptr, RgP.s, ow0, ow1, ow2, iv0, iv1, evl, evn]
          done
        · refine hk _ ?_
          simp -implicitDefEqProofs only [evr, id, seval, Nat.sub_zero, Option.map_none, ent0, ent1, ent2, ent3, ent4, regS, entS, Ent.cs, tupL, ptr, RgP.s, ow0, ow1, ow2, iv0, iv1, evl, evn]
          done
        · refine hk _ ?_
          simp -implicitDefEqProofs only [evr, id, seval, Nat.sub_zero, Option.map_none, ent0, ent1, ent2, ent3, ent4, regS, entS, Ent.cs, tupL, ptr, RgP.s, ow0, ow1, ow2, iv0, iv1, evl, evn]
          done
    refine Sat.cond_b rfl (fun h => absurd h (by decide)) (fun _ => ?_)
    refine Sat.skip ?_
    simp only [thenK, blockK, reduceIte]
    refine Sat.region_k fun k hk => ?_
    simp -implicitDefEqProofs only [evr, id, seval, Nat.sub_zero, Option.map_none, ent0, ent1, ent2, ent3, ent4, regS, entS, Ent.cs, tupL, ptr, RgP.s, ow0, ow1, ow2, iv0, iv1, e2, evn]
    refine hk _ ?_
    simp only [thenK, blockK]
    refine ⟨i + 1, by omega, by omega, ?_⟩
    simp -implicitDefEqProofs only [evr, id, seval, Nat.sub_zero, Option.map_none, ent0, ent1, ent2, ent3, ent4, regS, entS, Ent.cs, tupL, ptr, RgP.s, ow0, ow1, ow2, iv0, iv1, evl, evn]
  · simp only [decide_eq_false_iff_not] at h2
    obtain rfl : i = hs.length := by omega
    refine Sat.exit ?_
    simp only [thenK, blockK, reduceIte]
    (repeat refine Sat.seq ?_)
    (refine Sat.region_k fun k hk => ?_; simp -implicitDefEqProofs only [evr, id, seval, Nat.sub_zero, Option.map_none, ent0, ent1, ent2, ent3, ent4, regS, entS, Ent.cs, tupL, ptr, RgP.s, ow0, ow1, ow2, iv0, iv1, evn]; refine hk _ ?_; clear hk k; try show Sat _ _ _ _ _)
    (repeat refine Sat.seq ?_)
    (refine Sat.region_k fun k hk => ?_; simp -implicitDefEqProofs only [evr, id, seval, Nat.sub_zero, Option.map_none, ent0, ent1, ent2, ent3, ent4, regS, entS, Ent.cs, tupL, ptr, RgP.s, ow0, ow1, ow2, iv0, iv1, evn])
    refine wcall_slice (changedC _ ⟨ra, rc, es⟩ ⟨qa, qc, fs⟩ ho (show es.length ≤ 1000000 by omega) ho2 (show fs.length ≤ 1000000 by omega) ad hax) rfl (by simp -implicitDefEqProofs only [evr, id, seval, Nat.sub_zero, Option.map_none, ent0, ent1, ent2, ent3, ent4, regS, entS, Ent.cs, tupL, ptr, RgP.s, ow0, ow1, ow2, iv0, iv1, evn]; first | done | rfl) ?_
    rintro r ⟨a14, c14, rfl⟩
    have hck : COk (fun t => pvd ad t es ≠ pvd ad t fs) 1125899906842624 (chgL ad ⟨ra, rc, es⟩ ⟨qa, qc, fs⟩) := chgL_ok (a := ad) (p := ⟨ra, rc, es⟩) (q := ⟨qa, qc, fs⟩) hr hr2
    have hcl : (chgL ad ⟨ra, rc, es⟩ ⟨qa, qc, fs⟩).length ≤ 100000 := by
      unfold chgL
      rw [if_pos (show RegOk (RgP.mk ra rc es).es ∧ RegOk (RgP.mk qa qc fs).es from ⟨hr, hr2⟩)]
      have h1 := chg_len ad es fs (timesL ad [⟨ra, rc, es⟩, ⟨qa, qc, fs⟩]) ((timesL ad [⟨ra, rc, es⟩, ⟨qa, qc, fs⟩]).length - 1)
      have h2 := timesL_len ad [⟨ra, rc, es⟩, ⟨qa, qc, fs⟩] (fun r hr => by
        rcases List.mem_cons.1 hr with rfl | hr
        · exact ⟨ho, show es.length ≤ 1024 by omega⟩
        · rw [List.mem_singleton.1 hr]; exact ⟨ho2, show fs.length ≤ 1024 by omega⟩)
      simp only [List.length_cons, List.length_nil] at h2
      show (chg ad es fs _ _).length ≤ _
      omega
    generalize chgL ad ⟨ra, rc, es⟩ ⟨qa, qc, fs⟩ = ch at *
    simp -implicitDefEqProofs only [evr, id, seval, Nat.sub_zero, Option.map_none, ent0, ent1, ent2, ent3, ent4, regS, entS, Ent.cs, tupL, ptr, RgP.s, ow0, ow1, ow2, iv0, iv1, evn]
    (refine hk _ ?_; clear hk k; try show Sat _ _ _ _ _)
    (repeat refine Sat.seq ?_)
    (refine Sat.region_k fun k hk => ?_; simp -implicitDefEqProofs only [evr, id, seval, Nat.sub_zero, Option.map_none, ent0, ent1, ent2, ent3, ent4, regS, entS, Ent.cs, tupL, ptr, RgP.s, ow0, ow1, ow2, iv0, iv1, evn]; refine hk _ ?_; clear hk k; try show Sat _ _ _ _ _)
    (repeat refine Sat.seq ?_)
    refine Sat.block ?_
    refine Sat.loop (ι := Nat) (fun i => ⟨177, [(119, .i .i64 i), (13, .b (inFirst ch t i)), (117, .sl a14 ch.length c14 2 (ivRd ch)), (118, .i .i64 ch.length), (14, .sl a14 ch.length c14 2 (ivRd ch)), (6, .op 0 b6 0), (7, .op 1 b7 0), (8, .i .u32 ad), (10, .i .i64 t)], [.box b6 29 [.sl ra es.length rc 5 (entRd es)], .box b7 29 [.sl qa fs.length qc 5 (entRd fs)]]⟩) (fun i => i ≤ ch.length) (fun i => ch.length - i) 0 (Nat.zero_le _) (by simp -implicitDefEqProofs only [evr, id, seval, Nat.sub_zero, Option.map_none, ent0, ent1, ent2, ent3, ent4, regS, entS, Ent.cs, tupL, ptr, RgP.s, ow0, ow1, ow2, iv0, iv1, evl, evn]; try rfl) ?_
    rintro i hi
    (repeat refine Sat.seq ?_)
    (refine Sat.region_k fun k hk => ?_; simp -implicitDefEqProofs only [evr, id, seval, Nat.sub_zero, Option.map_none, ent0, ent1, ent2, ent3, ent4, regS, entS, Ent.cs, tupL, ptr, RgP.s, ow0, ow1, ow2, iv0, iv1, evn]; refine hk _ ?_; clear hk k; try show Sat _ _ _ _ _)
    (repeat refine Sat.seq ?_)
    refine Sat.cond_b rfl (fun h2 => ?_) (fun h2 => ?_)
    · simp only [decide_eq_true_eq] at h2
      have hlt : i < ch.length := by omega
      have e2 : IntKind.i64.wrap ((i : Int) + 1) = ((i + 1 : Nat) : Int) := by rw [w64 (by omega)]; omega
      obtain ⟨g1, g2, _⟩ := hck.each i hlt
      have hstep := inFirst_step (t := t) hlt
      refine Sat.skip ?_
      simp only [thenK]
      (repeat refine Sat.seq ?_)
      refine Sat.block ?_
      (repeat refine Sat.seq ?_)
      (refine Sat.region_k fun k hk => ?_; simp -implicitDefEqProofs only [evr, id, seval, Nat.sub_zero, Option.map_none, ent0, ent1, ent2, ent3, ent4, regS, entS, Ent.cs, tupL, ptr, RgP.s, ow0, ow1, ow2, iv0, iv1, evn])
      refine ⟨by omega, fun b16 => ?_⟩
      (refine hk _ ?_; clear hk k; try show Sat _ _ _ _ _)
      generalize hx9 : ch.getD i default = x at *
      (repeat refine Sat.seq ?_)
      refine Sat.region_at ⟨177, [(13, .b (inFirst ch t (i + 1))), (15, .i .i64 i), (16, .op 2 b16 0), (119, .i .i64 i), (117, .sl a14 ch.length c14 2 (ivRd ch)), (118, .i .i64 ch.length), (14, .sl a14 ch.length c14 2 (ivRd ch)), (6, .op 0 b6 0), (7, .op 1 b7 0), (8, .i .u32 ad), (10, .i .i64 t)], [.box b6 29 [.sl ra es.length rc 5 (entRd es)], .box b7 29 [.sl qa fs.length qc 5 (entRd fs)], .box b16 55 [.i .i64 x.low, .i .i64 x.high]]⟩ (fun k hk => ?_) ?_
      · simp -implicitDefEqProofs only [evr, id, seval, Nat.sub_zero, Option.map_none, ent0, ent1, ent2, ent3, ent4, regS, entS, Ent.cs, tupL, ptr, RgP.s, ow0, ow1, ow2, iv0, iv1, evn]
        repeat' (first
          | (with_reducible refine And.intro ?_ ?_)
          | (with_reducible intro hh)
          | (with_reducible refine hk _ ?_
             first
             | (have e9 : inFirst ch t (i + 1) = true := by
                  clear hk
                  rw [hstep]
                  simp_all
                  done
                simp only [e9]
                simp -implicitDefEqProofs only [evr, id, seval, Nat.sub_zero, Option.map_none, ent0, ent1, ent2, ent3, ent4, regS, entS, Ent.cs, tupL, ptr, RgP.s, ow0, ow1, ow2, iv0, iv1, evl, evn]
                done)
             | (have e9 : inFirst ch t (i + 1) = decide (t < x.high) := by
                  clear hk
                  rw [hstep]
                  simp_all
                  done
                simp only [e9]
                simp -implicitDefEqProofs only [evr, id, seval, Nat.sub_zero, Option.map_none, ent0, ent1, ent2, ent3, ent4, regS, entS, Ent.cs, tupL, ptr, RgP.s, ow0, ow1, ow2, iv0, iv1, evl, evn]
                done)
             | (have e9 : inFirst ch t (i + 1) = false := by
                  clear hk
                  rw [hstep]
                  simp_all
                  try omega
                  done
                simp only [e9]
                simp -implicitDefEqProofs only [evr, id, seval, Nat.sub_zero, Option.map_none, ent0, ent1, ent2, ent3, ent4, regS, entS, Ent.cs, tupL, ptr, RgP.s, ow0, ow1, ow2, iv0, iv1, evl, evn]
                done)))
      (repeat refine Sat.seq ?_)
      refine Sat.region_qat (by kernel_rfl) (by kernel_rfl) ⟨177, [(156, .b false), (13, .b (inFirst ch t (i + 1))), (119, .i .i64 i), (117, .sl a14 ch.length c14 2 (ivRd ch)), (118, .i .i64 ch.length), (14, .sl a14 ch.length c14 2 (ivRd ch)), (6, .op 0 b6 0), (7, .op 1 b7 0), (8, .i .u32 ad), (10, .i .i64 t)], [.box b6 29 [.sl ra es.length rc 5 (entRd es)], .box b7 29 [.sl qa fs.length qc 5 (entRd fs)]]⟩ (fun k hk => ?_) ?_
      · have d1 : decide (x.high ≤ x.low) = false := decide_eq_false (by omega)
        rcases Nat.eq_zero_or_pos i with h0 | h0
        · have d2 : decide (0 < (i : Int)) = false := decide_eq_false (by omega)
          simp -implicitDefEqProofs only [evr, id, seval, Nat.sub_zero, Option.map_none, ent0, ent1, ent2, ent3, ent4, regS, entS, Ent.cs, tupL, ptr, RgP.s, ow0, ow1, ow2, iv0, iv1, d1, d2, evn]
          refine hk _ ?_
          simp -implicitDefEqProofs only [evr, id, seval, Nat.sub_zero, Option.map_none, ent0, ent1, ent2, ent3, ent4, regS, entS, Ent.cs, tupL, ptr, RgP.s, ow0, ow1, ow2, iv0, iv1, evl, evn]
          done
        · have d2 : decide (0 < (i : Int)) = true := decide_eq_true (by omega)
          have g5 := g2 h0
          have d3 : decide (x.low ≤ (ch.getD (i - 1) default).high) = false := decide_eq_false (by omega)
          have e4 : IntKind.i64.wrap ((i : Int) - 1) = ((i - 1 : Nat) : Int) := by rw [w64 (by omega)]; omega
          simp -implicitDefEqProofs only [evr, id, seval, Nat.sub_zero, Option.map_none, ent0, ent1, ent2, ent3, ent4, regS, entS, Ent.cs, tupL, ptr, RgP.s, ow0, ow1, ow2, iv0, iv1, d1, d2, d3, e4, Int.toNat_natCast, evn]
          refine ⟨by omega, ?_⟩
          refine hk _ ?_
          simp -implicitDefEqProofs only [evr, id, seval, Nat.sub_zero, Option.map_none, ent0, ent1, ent2, ent3, ent4, regS, entS, Ent.cs, tupL, ptr, RgP.s, ow0, ow1, ow2, iv0, iv1, evl, evn]
          done
      refine Sat.cond_b rfl (fun h => absurd h (by decide)) (fun _ => ?_)
      refine Sat.skip ?_
      simp only [thenK, blockK, reduceIte]
      refine Sat.region_k fun k hk => ?_
      simp -implicitDefEqProofs only [evr, id, seval, Nat.sub_zero, Option.map_none, ent0, ent1, ent2, ent3, ent4, regS, entS, Ent.cs, tupL, ptr, RgP.s, ow0, ow1, ow2, iv0, iv1, e2, evn]
      refine hk _ ?_
      simp only [thenK, blockK]
      refine ⟨i + 1, by omega, by omega, ?_⟩
      simp -implicitDefEqProofs only [evr, id, seval, Nat.sub_zero, Option.map_none, ent0, ent1, ent2, ent3, ent4, regS, entS, Ent.cs, tupL, ptr, RgP.s, ow0, ow1, ow2, iv0, iv1, evl, evn]
    · simp only [decide_eq_false_iff_not] at h2
      obtain rfl : i = ch.length := by omega
      have hfi : inFirst ch t ch.length = (pvd ad t es != pvd ad t fs) := by
        apply Bool.eq_iff_iff.2
        rw [hck.first ht0 (by omega), bne_iff_ne]
      rw [hfi]
      refine Sat.exit ?_
      simp only [thenK, blockK, reduceIte]
      have hp1 := providerC (Frm.codesT cb txN TxT tx_low) ra rc es ho (by omega) ad hax t
      have hp2 := providerC (Frm.codesT cb txN TxT tx_low) qa qc fs ho2 (by omega) ad hax t
      rw [prov_pvd hr] at hp1
      rw [prov_pvd hr2] at hp2
      have hcc := changedC (Frm.codesT cb txN TxT tx_low) ⟨ra, rc, es⟩ ⟨ra, rc, es⟩ ho (show es.length ≤ 1000000 by omega) ho (show es.length ≤ 1000000 by omega) ad hax
      rw [chgL_same ad ⟨ra, rc, es⟩ ⟨ra, rc, es⟩ rfl] at hcc
      generalize pvd ad t es = pa at *
      generalize pvd ad t fs = pb at *
      (repeat refine Sat.seq ?_)
      (refine Sat.region_tree (.keep [0, 2, 3, 6, 7, 1, 5] [4] (.one 4 (.one 8 (.one 9 (.one 10 (.one 11 (.free 14 (.alt 12 (.one 13 (.one 15 (.one 16 (.one 17 (.one 18 (.one 19 .done)))))) (.alt 13 (.one 12 (.one 15 (.one 16 (.one 17 (.one 18 (.one 19 .done)))))) .none))))))))) (by kernel_rfl) (by kernel_rfl) (fun _ _ h => h) fun k hk => ?_; simp only [WOT, List.map_cons, List.map_nil, List.getD_cons_zero, List.getD_cons_succ]; simp -implicitDefEqProofs only [evr, id, seval, Nat.sub_zero, Option.map_none, ent0, ent1, ent2, ent3, ent4, regS, entS, Ent.cs, tupL, ptr, RgP.s, ow0, ow1, ow2, iv0, iv1, WOT, evn])
      repeat' (first
        | (with_reducible refine And.intro ?_ ?_)
        | omega
        | (with_reducible rfl)
        | (refine wcall_plain hp1 (by simp -implicitDefEqProofs only [evr, id, seval, Nat.sub_zero, Option.map_none, ent0, ent1, ent2, ent3, ent4, regS, entS, Ent.cs, tupL, ptr, RgP.s, ow0, ow1, ow2, iv0, iv1, evn]; first | done | rfl) (by rintro _ rfl; exact ok_plain rfl) ?_
           rintro r rfl
           simp -implicitDefEqProofs only [evr, id, seval, Nat.sub_zero, Option.map_none, ent0, ent1, ent2, ent3, ent4, regS, entS, Ent.cs, tupL, ptr, RgP.s, ow0, ow1, ow2, iv0, iv1, evn])
        | (refine wcall_plain hp2 (by simp -implicitDefEqProofs only [evr, id, seval, Nat.sub_zero, Option.map_none, ent0, ent1, ent2, ent3, ent4, regS, entS, Ent.cs, tupL, ptr, RgP.s, ow0, ow1, ow2, iv0, iv1, evn]; first | done | rfl) (by rintro _ rfl; exact ok_plain rfl) ?_
           rintro r rfl
           simp -implicitDefEqProofs only [evr, id, seval, Nat.sub_zero, Option.map_none, ent0, ent1, ent2, ent3, ent4, regS, entS, Ent.cs, tupL, ptr, RgP.s, ow0, ow1, ow2, iv0, iv1, beq_self_eq_true, evn])
        | (refine wcall_slice hcc rfl (by simp -implicitDefEqProofs only [evr, id, seval, Nat.sub_zero, Option.map_none, ent0, ent1, ent2, ent3, ent4, regS, entS, Ent.cs, tupL, ptr, RgP.s, ow0, ow1, ow2, iv0, iv1, evn]; first | done | rfl) ?_
           rintro r ⟨a19, c19, rfl⟩
           simp -implicitDefEqProofs only [evr, id, seval, Nat.sub_zero, Option.map_none, ent0, ent1, ent2, ent3, ent4, regS, entS, Ent.cs, tupL, ptr, RgP.s, ow0, ow1, ow2, iv0, iv1, List.length_nil, evn])
        | (refine hk _ ?_
           simp only [thenK]
           refine Sat.ret ?_
           simp only [Tryd.results5, evr, id, seval, List.append_nil, Int.toNat_zero, Nat.sub_self, Nat.sub_zero, Option.map_none, ent0, ent1, ent2, ent3, ent4, regS, entS, Ent.cs, tupL, ptr, RgP.s, ow0, ow1, ow2, iv0, iv1]
           done))
theorem history_holds : Rows.RegistryHistoryCardSaid := registryHistory.card_of_walk fun v z u w hL ⟨h, hz⟩ hu => by
  obtain ⟨a, cap, rfl, hok⟩ := slB_of h
  have k := bounds_u16 hu
  have hT : TxT w := laid_tab hL (by decide +kernel) (by simp [Rows.registryHistoryRow]; rfl) (g := 0) (t := 140) (e := 126) (m := 20) (by kernel_rfl) (by kernel_rfl) (by kernel_rfl) (by kernel_rfl) (by kernel_rfl) (by kernel_rfl)
  exact walk_ofT (historyLawC a cap z hz u (by omega) (by omega)) (tx_lt hT) hT (fun s hs => by
    simp only [List.mem_cons, List.mem_singleton, List.not_mem_nil, or_false] at hs
    rcases hs with rfl | rfl
    · exact hok
    · trivial)
end Go.Proofs.YtmbjonckigcgdaaDoor
