/- It is proved that the statement RegistryOrder holds for every input: Compare is a total order of entries and orders those of a registry. No conditions. -/
import Derived.Test.YtmbjonckigcgdaaDoorCsG
import Derived.Test.YtmbjonckigcgdaaDoorAwrE
import Derived.Test.YtmbjonckigcgdaaDoorSmrE
import Derived.Test.YtmbjonckigcgdaaDoorOpenE
import Derived.Test.YtmbjonckigcgdaaDoorShRegistryOrder
set_option linter.unusedSimpArgs false
set_option linter.unusedVariables false
namespace Go.Proofs.YtmbjonckigcgdaaDoor
open Go.RowKit Eng
theorem cmpE_neg (a b : Ent) : cmpE b a = - cmpE a b := cmpL_neg _ _
theorem cmpE_vals (a b : Ent) : cmpE a b = -1 ∨ cmpE a b = 0 ∨ cmpE a b = 1 := cmpL_vals _ _
theorem cmpE_zero {a b : Ent} : cmpE a b = 0 ↔ a = b := by
  unfold cmpE
  rw [cmpL_zero a.keys b.keys rfl]
  obtain ⟨a1, a2, a3, a4, a5⟩ := a
  obtain ⟨b1, b2, b3, b4, b5⟩ := b
  unfold Ent.keys
  simp only [List.cons.injEq, and_true, Ent.mk.injEq]
  omega
theorem cmpE_trans {a b c : Ent} (h : cmpE a b ≤ 0) (h' : cmpE b c ≤ 0) : cmpE a c ≤ 0 := by
  rcases cmpE_vals b c with e | e | e
  · have := cmpL_trans' (a := a.keys) (b := b.keys) (c := c.keys) rfl rfl h (by show cmpE b c < 0; omega)
    show cmpL a.keys c.keys ≤ 0
    omega
  · rw [← cmpE_zero.1 e]; exact h
  · omega
theorem cmpE_wrap (a b : Ent) : IntKind.i64.wrap (-(cmpE b a)) = cmpE a b := by
  rcases cmpE_vals a b with h | h | h
  all_goals
    rw [cmpE_neg a b, h]
    decide
theorem nb_cmpE {b e : Ent} (h : nb b e) (hb : b.from_ < b.to_) : cmpE b e < 0 := by
  have h1 := nb_fk h hb
  rw [fk_cmp] at h1
  rw [cmpE_or, orL_cons]
  split at h1
  · rename_i h2
    rw [if_neg (by rw [pk_zero.2 h2]; simp), orL_cons, if_pos (by omega)]
    exact h1
  · rename_i h2
    rw [if_pos (fun h3 => h2 (pk_zero.1 h3))]
    exact h1
theorem ent_eqB (e f : Ent) : aggEq Tryd.prog 37 5 (fun j => [SV.i .u32 (e.addr : Nat), .i .i64 e.len, .i .i64 e.prov, .i .i64 e.from_, .i .i64 e.to_].getD j default) 5 (fun j => [SV.i .u32 (f.addr : Nat), .i .i64 f.len, .i .i64 f.prov, .i .i64 f.from_, .i .i64 f.to_].getD j default) = some (entB e f) := by kernel_rfl
set_option maxHeartbeats 2000000 in
set_option maxRecDepth 100000 in
theorem orderLawC (a : Option Addr) (cap : Nat) (z : List Int) (hz : ∀ n ∈ z, (Lit.int .u8 n).wf = true) (e0 f0 g0 : Ent) : Contract FrA Tryd.prog 4 [slB a cap z, entS e0, entS f0, entS g0] (fun r => r = .b true) := by
  refine contract_of Tryd.func4 rfl (by kernel_rfl) ?_
  simp only [Tryd.ntmps4, argEnv, entS, Ent.cs]
  (repeat refine Sat.seq ?_)
  (refine Sat.region_k fun k hk => ?_; simp -implicitDefEqProofs only [evr, id, seval, Nat.sub_zero, Option.map_none, ent0, ent1, ent2, ent3, ent4, regS, entS, Ent.cs, tupL, ptr, renM, ent_eqB, evn])
  intro b5 b6 b7
  (refine hk _ ?_; clear hk k; try show Sat _ _ _ _ _)
  (repeat refine Sat.seq ?_)
  (refine Sat.region_k fun k hk => ?_; simp -implicitDefEqProofs only [evr, id, seval, Nat.sub_zero, Option.map_none, ent0, ent1, ent2, ent3, ent4, regS, entS, Ent.cs, tupL, ptr, renM, ent_eqB, evn])
  refine wcall_plain awakeC rfl (by rintro _ rfl; exact ok_plain rfl) ?_
  rintro r rfl
  simp -implicitDefEqProofs only [evr, id, seval, Nat.sub_zero, Option.map_none, ent0, ent1, ent2, ent3, ent4, regS, entS, Ent.cs, tupL, ptr, renM, ent_eqB, evn]
  (refine hk _ ?_; clear hk k; try show Sat _ _ _ _ _)
  (repeat refine Sat.seq ?_)
  refine Sat.cond_b rfl (fun h => absurd h (by decide)) (fun _ => ?_)
  refine Sat.skip ?_
  simp only [thenK]
  (repeat refine Sat.seq ?_)
  (refine Sat.region_k fun k hk => ?_; simp -implicitDefEqProofs only [evr, id, seval, Nat.sub_zero, Option.map_none, ent0, ent1, ent2, ent3, ent4, regS, entS, Ent.cs, tupL, ptr, renM, ent_eqB, evn])
  refine wcall_make (Cs.rollC a z.length cap (fun i _ => .i .u8 (z.getD i 0)) (fun i hi => ⟨z.getD i 0, by have := bounds_u8 (hz _ (getD_mem (d := 0) hi)); omega, by have := bounds_u8 (hz _ (getD_mem (d := 0) hi)); omega, rfl⟩)) ?_
  intro cb
  simp -implicitDefEqProofs only [evr, id, seval, Nat.sub_zero, Option.map_none, ent0, ent1, ent2, ent3, ent4, regS, entS, Ent.cs, tupL, ptr, renM, ent_eqB, evn]
  (refine hk _ ?_; clear hk k; try show Sat _ _ _ _ _)
  generalize Cs.slS a z.length = S
  (repeat refine Sat.seq ?_)
  (refine Sat.region_k fun k hk => ?_; simp -implicitDefEqProofs only [evr, id, seval, Nat.sub_zero, Option.map_none, ent0, ent1, ent2, ent3, ent4, regS, entS, Ent.cs, tupL, ptr, renM, ent_eqB, evn])
  refine wcall_mut 3 (Cs.useMK (Cs.boolC S cb 2 (by decide) (by decide))) rfl rfl ?_
  rintro r o1 ⟨⟨bb, rfl⟩, rfl⟩
  simp -implicitDefEqProofs only [evr, id, seval, Nat.sub_zero, Option.map_none, ent0, ent1, ent2, ent3, ent4, regS, entS, Ent.cs, tupL, ptr, renM, ent_eqB, evn]
  (refine hk _ ?_; clear hk k; try show Sat _ _ _ _ _)
  (repeat refine Sat.seq ?_)
  refine Sat.join (ι := Ent × Ent × Ent) (fun x => ⟨84, [(5, .op 0 b5 0), (6, .op 1 b6 0), (7, .op 2 b7 0), (8, .ff), (9, .v (.pointer (some ⟨cb, 0, none⟩)))], [.box b5 37 (Ent.cs x.1), .box b6 37 (Ent.cs x.2.1), .box b7 37 (Ent.cs x.2.2), .res cb (Cs.CoS S cb)]⟩) (fun _ => True) ?_ ?_
  · refine Sat.cond_b rfl (fun h => ?_) (fun h => ?_)
    · (repeat refine Sat.seq ?_)
      (refine Sat.region_k fun k hk => ?_; simp -implicitDefEqProofs only [evr, id, seval, Nat.sub_zero, Option.map_none, ent0, ent1, ent2, ent3, ent4, regS, entS, Ent.cs, tupL, ptr, renM, ent_eqB, evn])
      refine wcall_mut 3 (Cs.useMK (Cs.diceEntryC S cb)) rfl rfl ?_
      rintro r o1 ⟨⟨e, rfl, _⟩, rfl⟩
      simp -implicitDefEqProofs only [evr, id, seval, Nat.sub_zero, Option.map_none, ent0, ent1, ent2, ent3, ent4, regS, entS, Ent.cs, tupL, ptr, renM, ent_eqB, evn]
      refine wcall_mut 3 (Cs.useMK (Cs.diceEntryC S cb)) rfl rfl ?_
      rintro r o1 ⟨⟨f, rfl, _⟩, rfl⟩
      simp -implicitDefEqProofs only [evr, id, seval, Nat.sub_zero, Option.map_none, ent0, ent1, ent2, ent3, ent4, regS, entS, Ent.cs, tupL, ptr, renM, ent_eqB, evn]
      refine wcall_mut 3 (Cs.useMK (Cs.diceEntryC S cb)) rfl rfl ?_
      rintro r o1 ⟨⟨g, rfl, _⟩, rfl⟩
      simp -implicitDefEqProofs only [evr, id, seval, Nat.sub_zero, Option.map_none, ent0, ent1, ent2, ent3, ent4, regS, entS, Ent.cs, tupL, ptr, renM, ent_eqB, evn]
      (refine hk _ ?_; clear hk k; try show Sat _ _ _ _ _)
      refine ⟨(e, f, g), trivial, ?_⟩
      simp only [Ent.cs]
      simp -implicitDefEqProofs only [evr, id, seval, Nat.sub_zero, Option.map_none, ent0, ent1, ent2, ent3, ent4, regS, entS, Ent.cs, tupL, ptr, renM, ent_eqB, evl, evn]
    · refine Sat.skip ?_
      simp only [thenK]
      refine ⟨(e0, f0, g0), trivial, ?_⟩
      simp only [Ent.cs]
      simp -implicitDefEqProofs only [evr, id, seval, Nat.sub_zero, Option.map_none, ent0, ent1, ent2, ent3, ent4, regS, entS, Ent.cs, tupL, ptr, renM, ent_eqB, evl, evn]
  rintro ⟨e, f, g⟩ -
  simp only [Ent.cs]
  have eN : IntKind.i64.wrap (0 - cmpE f e) = cmpE e f := by rw [Int.zero_sub]; exact cmpE_wrap e f
  have hzr : ((cmpE e f == 0) != entB e f) = false := by
    have h1 := @cmpE_zero e f
    have h2 := @entB_iff e f
    cases h3 : entB e f
    · rw [h3] at h2
      have : ¬ cmpE e f = 0 := fun h4 => by have := h2.2 (h1.1 h4); cases this
      rw [beq_eq_false_iff_ne.2 this]
      rfl
    · rw [h3] at h2
      rw [beq_iff_eq.2 (h1.2 (h2.1 rfl))]
      rfl
  have htr := @cmpE_trans e f g
  (repeat refine Sat.seq ?_)
  refine Sat.region_qat (by kernel_rfl) (by kernel_rfl) ⟨84, [(59, .b false), (8, .ff), (9, .v (.pointer (some ⟨cb, 0, none⟩)))], [.gone, .gone, .gone, .res cb (Cs.CoS S cb)]⟩ (fun k hk => ?_) ?_
  · simp -implicitDefEqProofs only [evr, id, seval, Nat.sub_zero, Option.map_none, ent0, ent1, ent2, ent3, ent4, regS, entS, Ent.cs, tupL, ptr, renM, ent_eqB, evn]
    repeat' (first
      | (with_reducible refine And.intro ?_ ?_)
      | (with_reducible intro hh)
      | (refine qcall (compareEC Frm.nil e f) (by simp -implicitDefEqProofs only [evr, id, seval, Nat.sub_zero, Option.map_none, ent0, ent1, ent2, ent3, ent4, regS, entS, Ent.cs, tupL, ptr, renM, ent_eqB, evn]; first | done | rfl) (ok_plain rfl) ?_
         simp -implicitDefEqProofs only [evr, id, seval, Nat.sub_zero, Option.map_none, ent0, ent1, ent2, ent3, ent4, regS, entS, Ent.cs, tupL, ptr, renM, ent_eqB, hzr, evn])
      | (refine qcall (compareEC Frm.nil f e) (by simp -implicitDefEqProofs only [evr, id, seval, Nat.sub_zero, Option.map_none, ent0, ent1, ent2, ent3, ent4, regS, entS, Ent.cs, tupL, ptr, renM, ent_eqB, evn]; first | done | rfl) (ok_plain rfl) ?_
         simp -implicitDefEqProofs only [evr, id, seval, Nat.sub_zero, Option.map_none, ent0, ent1, ent2, ent3, ent4, regS, entS, Ent.cs, tupL, ptr, renM, ent_eqB, eN, bne_self_eq_false, beq_self_eq_true, Bool.not_true, evn])
      | (refine qcall (compareEC Frm.nil f g) (by simp -implicitDefEqProofs only [evr, id, seval, Nat.sub_zero, Option.map_none, ent0, ent1, ent2, ent3, ent4, regS, entS, Ent.cs, tupL, ptr, renM, ent_eqB, evn]; first | done | rfl) (ok_plain rfl) ?_
         simp -implicitDefEqProofs only [evr, id, seval, Nat.sub_zero, Option.map_none, ent0, ent1, ent2, ent3, ent4, regS, entS, Ent.cs, tupL, ptr, renM, ent_eqB, evn])
      | (refine qcall (compareEC Frm.nil e g) (by simp -implicitDefEqProofs only [evr, id, seval, Nat.sub_zero, Option.map_none, ent0, ent1, ent2, ent3, ent4, regS, entS, Ent.cs, tupL, ptr, renM, ent_eqB, evn]; first | done | rfl) (ok_plain rfl) ?_
         have hle := htr (by assumption) (by assumption)
         have d9 : decide (0 < cmpE e g) = false := decide_eq_false (by omega)
         simp -implicitDefEqProofs only [evr, id, seval, Nat.sub_zero, Option.map_none, ent0, ent1, ent2, ent3, ent4, regS, entS, Ent.cs, tupL, ptr, renM, ent_eqB, d9, evn])
      | (with_reducible refine hk _ ?_
         simp -implicitDefEqProofs only [evr, id, seval, Nat.sub_zero, Option.map_none, ent0, ent1, ent2, ent3, ent4, regS, entS, Ent.cs, tupL, ptr, renM, ent_eqB, evl, evn]
         done))
  refine Sat.cond_b rfl (fun h => absurd h (by decide)) (fun _ => ?_)
  refine Sat.skip ?_
  simp only [thenK]
  (repeat refine Sat.seq ?_)
  (refine Sat.region_k fun k hk => ?_; simp -implicitDefEqProofs only [evr, id, seval, Nat.sub_zero, Option.map_none, ent0, ent1, ent2, ent3, ent4, regS, entS, Ent.cs, tupL, ptr, renM, ent_eqB, evn])
  refine wcall_mut 3 (Cs.useMK (Cs.diceRegistryC S cb 12 (by decide))) rfl rfl ?_
  rintro r o1 ⟨⟨ra, rc, es, rfl, hr, ho, hlen⟩, rfl⟩
  simp -implicitDefEqProofs only [evr, id, seval, Nat.sub_zero, Option.map_none, ent0, ent1, ent2, ent3, ent4, regS, entS, Ent.cs, tupL, ptr, renM, ent_eqB, evn]
  intro b10
  (refine hk _ ?_; clear hk k; try show Sat _ _ _ _ _)
  (repeat refine Sat.seq ?_)
  (refine Sat.region_k fun k hk => ?_; simp -implicitDefEqProofs only [evr, id, seval, Nat.sub_zero, Option.map_none, ent0, ent1, ent2, ent3, ent4, regS, entS, Ent.cs, tupL, ptr, renM, ent_eqB, evn]; refine hk _ ?_; clear hk k; try show Sat _ _ _ _ _)
  (repeat refine Sat.seq ?_)
  refine Sat.block ?_
  refine Sat.loop (ι := Nat) (fun i => ⟨84, [(11, .i .i64 i), (10, .op 4 b10 0)], [.gone, .gone, .gone, .res cb (Cs.CoS S cb), .box b10 29 [.sl ra es.length rc 5 (entRd es)]]⟩) (fun i => 1 ≤ i ∧ i ≤ es.length + 1) (fun i => es.length + 1 - i) 1 ⟨Nat.le_refl _, by omega⟩ (by simp -implicitDefEqProofs only [evr, id, seval, Nat.sub_zero, Option.map_none, ent0, ent1, ent2, ent3, ent4, regS, entS, Ent.cs, tupL, ptr, renM, ent_eqB, evl, evn]; try rfl) ?_
  rintro i ⟨hi1, hi2⟩
  (repeat refine Sat.seq ?_)
  (refine Sat.region_k fun k hk => ?_; simp -implicitDefEqProofs only [evr, id, seval, Nat.sub_zero, Option.map_none, ent0, ent1, ent2, ent3, ent4, regS, entS, Ent.cs, tupL, ptr, renM, ent_eqB, evn]; refine hk _ ?_; clear hk k; try show Sat _ _ _ _ _)
  (repeat refine Sat.seq ?_)
  refine Sat.cond_b rfl (fun h2 => ?_) (fun h2 => ?_)
  · simp only [decide_eq_true_eq] at h2
    have hlt : i < es.length := by omega
    have e2 : IntKind.i64.wrap ((i : Int) + 1) = ((i + 1 : Nat) : Int) := by rw [w64 (by omega)]; omega
    have e4 : IntKind.i64.wrap ((i : Int) - 1) = ((i - 1 : Nat) : Int) := by rw [w64 (by omega)]; omega
    have hc : cmpE (es.getD (i - 1) default) (es.getD i default) < 0 := by
      have h3 := RegOk.lt hr 0 (i - 1) (by omega)
      rw [show i - 1 + 0 + 1 = i by omega] at h3
      exact nb_cmpE h3 (hr.2 (i - 1) (by omega)).1.2.2.2.2.1
    have d9 : decide (0 ≤ cmpE (es.getD (i - 1) default) (es.getD i default)) = false := decide_eq_false (by omega)
    refine Sat.skip ?_
    simp only [thenK]
    (repeat refine Sat.seq ?_)
    refine Sat.block ?_
    (repeat refine Sat.seq ?_)
    refine Sat.region_qk (by kernel_rfl) (by kernel_rfl) fun k hk => ?_
    simp -implicitDefEqProofs only [evr, id, seval, Nat.sub_zero, Option.map_none, ent0, ent1, ent2, ent3, ent4, regS, entS, Ent.cs, tupL, ptr, renM, ent_eqB, e4, Int.toNat_natCast, evn]
    refine ⟨by omega, by omega, ?_⟩
    refine qcall (compareEC Frm.nil (es.getD (i - 1) default) (es.getD i default)) (by simp -implicitDefEqProofs only [evr, id, seval, Nat.sub_zero, Option.map_none, ent0, ent1, ent2, ent3, ent4, regS, entS, Ent.cs, tupL, ptr, renM, ent_eqB, evn]; first | done | rfl) (ok_plain rfl) ?_
    simp -implicitDefEqProofs only [evr, id, seval, Nat.sub_zero, Option.map_none, ent0, ent1, ent2, ent3, ent4, regS, entS, Ent.cs, tupL, ptr, renM, ent_eqB, d9, evn]
    (refine hk _ ?_; clear hk k; try show Sat _ _ _ _ _)
    (repeat refine Sat.seq ?_)
    refine Sat.cond_b rfl (fun h => absurd h (by decide)) (fun _ => ?_)
    refine Sat.skip ?_
    simp only [thenK, blockK, reduceIte]
    refine Sat.region_k fun k hk => ?_
    simp -implicitDefEqProofs only [evr, id, seval, Nat.sub_zero, Option.map_none, ent0, ent1, ent2, ent3, ent4, regS, entS, Ent.cs, tupL, ptr, renM, ent_eqB, e2, evn]
    refine hk _ ?_
    simp only [thenK, blockK]
    refine ⟨i + 1, ⟨by omega, by omega⟩, by omega, ?_⟩
    simp -implicitDefEqProofs only [evr, id, seval, Nat.sub_zero, Option.map_none, ent0, ent1, ent2, ent3, ent4, regS, entS, Ent.cs, tupL, ptr, renM, ent_eqB, evl, evn]
  · refine Sat.exit ?_
    simp only [thenK, blockK, reduceIte]
    (repeat refine Sat.seq ?_)
    (refine Sat.region_k fun k hk => ?_; simp -implicitDefEqProofs only [evr, id, seval, Nat.sub_zero, Option.map_none, ent0, ent1, ent2, ent3, ent4, regS, entS, Ent.cs, tupL, ptr, renM, ent_eqB, evn])
    refine wcall_plain (regValidC _ ra rc es ho) (by simp -implicitDefEqProofs only [evr, id, seval, Nat.sub_zero, Option.map_none, ent0, ent1, ent2, ent3, ent4, regS, entS, Ent.cs, tupL, ptr, renM, ent_eqB, evn]; first | done | rfl) (by rintro _ rfl; exact ok_plain rfl) ?_
    rintro r rfl
    simp only [decide_eq_true hr, evr, id, seval, List.append_nil, Int.toNat_zero, Nat.sub_self, Nat.sub_zero, Option.map_none, ent0, ent1, ent2, ent3, ent4, regS, entS, Ent.cs, tupL, ptr, renM, ent_eqB]
    (refine hk _ ?_; clear hk k; try show Sat _ _ _ _ _)
    refine Sat.ret ?_
    simp only [Tryd.results4, evr, id, seval, List.append_nil, Int.toNat_zero, Nat.sub_self, Nat.sub_zero, Option.map_none, ent0, ent1, ent2, ent3, ent4, regS, entS, Ent.cs, tupL, ptr, renM, ent_eqB]
    try rfl
theorem sh_fieldsO {P : Program} {D : Nat} {t : TypeId} {ps : List (Nat × TypeId)} {l : List SV} (hu : P.underlying t = some (.struct (P.fieldsOf t))) (hm : (P.fieldsOf t).toList.map (fun f => (f.offset, f.type)) = ps) (h : Sh P (D + 1) t l) :
    l.length = P.cellsOf t ∧ ∀ p ∈ ps, Sh P D p.2 ((l.drop p.1).take (P.cellsOf p.2)) := by
  obtain ⟨h1, h2⟩ := sh_struct hu h
  refine ⟨h1, fun p hp => ?_⟩
  rw [← hm] at hp
  obtain ⟨f, hf, rfl⟩ := List.mem_map.1 hp
  exact h2 f hf
set_option maxRecDepth 100000 in
theorem ent_of_sh {D : Nat} {l : List SV} (h : Sh Tryd.prog (D + 3) 37 l) : ∃ e : Ent, l = Ent.cs e ∧ eOk e := by
  obtain ⟨h1, h2⟩ := sh_fieldsO (ps := [(0, 35), (2, 3), (3, 3), (4, 3)]) (by kernel_rfl) (by kernel_rfl) h
  have hc : Tryd.prog.cellsOf 37 = 5 := by kernel_rfl
  have q1 : Tryd.prog.cellsOf 35 = 2 := by kernel_rfl
  have q2 : Tryd.prog.cellsOf 32 = 1 := by kernel_rfl
  have q3 : Tryd.prog.cellsOf 3 = 1 := by kernel_rfl
  rw [hc] at h1
  match l, h1 with
  | [x0, x1, x2, x3, x4], _ =>
    have g0 := h2 (0, 35) (by simp)
    have g1 := h2 (2, 3) (by simp)
    have g2 := h2 (3, 3) (by simp)
    have g3 := h2 (4, 3) (by simp)
    simp only [q1, q3] at g0 g1 g2 g3
    obtain ⟨k1, k2⟩ := sh_fieldsO (ps := [(0, 32), (1, 3)]) (by kernel_rfl) (by kernel_rfl) g0
    have m0 := k2 (0, 32) (by simp)
    have m1 := k2 (1, 3) (by simp)
    simp only [q2, q3] at m0 m1
    obtain ⟨n0, y0, w0⟩ := sh_int (k := .u32) (by kernel_rfl) m0
    obtain ⟨n1, y1, _⟩ := sh_int (k := .i64) (by kernel_rfl) m1
    obtain ⟨n2, y2, _⟩ := sh_int (k := .i64) (by kernel_rfl) g1
    obtain ⟨n3, y3, _⟩ := sh_int (k := .i64) (by kernel_rfl) g2
    obtain ⟨n4, y4, _⟩ := sh_int (k := .i64) (by kernel_rfl) g3
    have b0 := bounds_u32 w0
    obtain ⟨a, rfl⟩ := Int.eq_ofNat_of_zero_le b0.1
    simp at y0 y1 y2 y3 y4
    subst y0 y1 y2 y3 y4
    exact ⟨⟨a, n1, n2, n3, n4⟩, rfl, by show a < 2 ^ 32; omega⟩
set_option maxRecDepth 100000 in
theorem valS_ent (e : Ent) : valS Tryd.prog 37 (Ent.cs e) = entS e := by
  have : ∀ x0 x1 x2 x3 x4 : SV, valS Tryd.prog 37 [x0, x1, x2, x3, x4] = .agg 5 fun j => [x0, x1, x2, x3, x4].getD j default := fun _ _ _ _ _ => by kernel_rfl
  exact this _ _ _ _ _
open Go.RowKit Go.WideShapes Go.ChangeShapes in
set_option maxRecDepth 100000 in
theorem order_walk : registryOrder.Walk := by
  intro w hL l0 l1 l2 l3 c0 s0 o0 c1 s1 o1 c2 s2 o2 c3 s3 o3
  obtain ⟨a, cap, z, rd, rfl, hz, hrd⟩ := sh_ints (e := 5) (k := .u8) (by kernel_rfl) (by kernel_rfl) (by kernel_rfl) s0
  obtain ⟨e, rfl, _⟩ := ent_of_sh s1
  obtain ⟨f, rfl, _⟩ := ent_of_sh s2
  obtain ⟨g, rfl, _⟩ := ent_of_sh s3
  rw [valS_one (by kernel_rfl)] at o0 ⊢
  rw [valS_ent] at o1 o2 o3
  rw [valS_ent, valS_ent, valS_ent]
  have hT : TxT w := laid_tab hL (by decide +kernel) (by simp [Rows.registryOrderRow]; rfl) (g := 0) (t := 140) (e := 126) (m := 20) (by kernel_rfl) (by kernel_rfl) (by kernel_rfl) (by kernel_rfl) (by kernel_rfl) (by kernel_rfl)
  have hc := orderLawC a cap z hz e f g
  have hc' : Contract FrA Tryd.prog 4 [.sl a z.length cap 1 rd, entS e, entS f, entS g] (fun r => r = .b true) :=
    Contract.of_sim hc ⟨sim_sl hrd, sim_refl _, sim_refl _, sim_refl _, trivial⟩
  exact walk_ofT hc' (tx_lt hT) hT (by
    intro s hs
    simp only [List.mem_cons, List.mem_singleton, List.not_mem_nil, or_false] at hs
    rcases hs with rfl | rfl | rfl | rfl <;> assumption)
theorem order_holds : Rows.RegistryOrderCardSaid := registryOrder.card_of_walk order_walk
end Go.Proofs.YtmbjonckigcgdaaDoor
