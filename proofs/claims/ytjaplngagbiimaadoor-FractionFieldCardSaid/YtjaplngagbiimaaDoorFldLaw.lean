/- FractionField: sums and products are commutative and associative, distribute, and are undone by differences and quotients. The law holds of every input. -/
import Derived.Test.YtjaplngagbiimaaDoorPk2
set_option linter.unusedSimpArgs false
set_option linter.unusedVariables false
namespace Go.Proofs.YtjaplngagbiimaaDoor
open Eng Lmb Go.RowKit

theorem frV_zero {neg : Bool} {a : Option Addr} {l c z : Nat} {r : Nat → Nat → SV} {t : SV} {n : Int} {d k : Nat} (h : FrV (frS neg (.sl a l c z r) t) n d k) : some (SV.b ((l : Int) == 0)) = some (.b (decide (n = 0))) := by
  obtain ⟨ng, p, q, ⟨sp, sq, he, hp, hq⟩, h1, hq0, hd0, _⟩ := h
  have he' := congrArg (fun v => match v with | .agg _ g => g 1 | x => x) he
  simp only [frS, List.getD_cons_succ, List.getD_cons_zero] at he'
  subst he'
  rw [hp.len0]
  have h3 : p = 0 ↔ n = 0 := by
    constructor
    · intro h
      subst h
      have h4 : n * (q : Int) = 0 := by rw [← h1]; cases ng <;> simp [sg]
      rcases Int.mul_eq_zero.1 h4 with h5 | h5
      · exact h5
      · omega
    · intro h
      subst h
      have h4 : sg ng p * (d : Int) = 0 := by rw [h1]; simp
      rcases Int.mul_eq_zero.1 h4 with h5 | h5
      · cases ng <;> simp [sg] at h5 <;> omega
      · omega
  rw [decide_eq_decide.2 h3]

set_option maxHeartbeats 4000000 in
set_option maxRecDepth 100000 in
theorem fieldC (a : Option Addr) (cap : Nat) (z : List Int) (hz : ∀ n ∈ z, (Lit.int .u8 n).wf = true) : Contract Frm.nil Tryd.prog 3 [slB a cap z] (fun r => r = .b true) := by
  have hb := slB_bytes3 a cap z hz
  refine contract_of Tryd.func3 rfl (by kernel_rfl) ?_
  simp only [Tryd.ntmps3, argEnv]
  (repeat refine Sat.seq ?_)
  (refine Sat.region_k fun k hk => ?_; simp -implicitDefEqProofs only [evr, id, reduceCtorEq, reduceIte, Nat.reduceMul, Nat.reduceAdd, Nat.reduceLT, Nat.reduceLeDiff, Nat.reduceEqDiff, Int.reduceLT, Int.reduceBEq, Int.reduceBNe, Nat.reduceBEq, List.append_nil, Int.toNat_zero, Nat.sub_self, frS, ptr]; refine hk _ ?_; clear hk k; try show Sat _ _ _ _ _)
  (repeat refine Sat.seq ?_)
  (refine Sat.region_k fun k hk => ?_; simp -implicitDefEqProofs only [evr, id, reduceCtorEq, reduceIte, Nat.reduceMul, Nat.reduceAdd, Nat.reduceLT, Nat.reduceLeDiff, Nat.reduceEqDiff, Int.reduceLT, Int.reduceBEq, Int.reduceBNe, Nat.reduceBEq, List.append_nil, Int.toNat_zero, Nat.sub_self, frS, ptr])
  refine wcall_plain (awakeC Frm.nil) rfl (by rintro _ rfl; exact ok_plain rfl) ?_
  rintro r rfl
  simp -implicitDefEqProofs only [evr, id, reduceCtorEq, reduceIte, Nat.reduceMul, Nat.reduceAdd, Nat.reduceLT, Nat.reduceLeDiff, Nat.reduceEqDiff, Int.reduceLT, Int.reduceBEq, Int.reduceBNe, Nat.reduceBEq, List.append_nil, Int.toNat_zero, Nat.sub_self, frS, ptr]
  (refine hk _ ?_; clear hk k; try show Sat _ _ _ _ _)
  (repeat refine Sat.seq ?_)
  refine Sat.cond_b rfl (fun h => absurd h (by decide)) (fun _ => ?_)
  refine Sat.skip ?_
  simp only [thenK]
  refine Sat.seq ?_
  (refine Sat.region_k fun k hk => ?_; simp -implicitDefEqProofs only [evr, id, reduceCtorEq, reduceIte, Nat.reduceMul, Nat.reduceAdd, Nat.reduceLT, Nat.reduceLeDiff, Nat.reduceEqDiff, Int.reduceLT, Int.reduceBEq, Int.reduceBNe, Nat.reduceBEq, List.append_nil, Int.toNat_zero, Nat.sub_self, frS, ptr])
  refine wcall_make (newRC (slB a cap z) hb 200 (by decide)) ?_
  intro cb
  simp -implicitDefEqProofs only [evr, id, reduceCtorEq, reduceIte, Nat.reduceMul, Nat.reduceAdd, Nat.reduceLT, Nat.reduceLeDiff, Nat.reduceEqDiff, Int.reduceLT, Int.reduceBEq, Int.reduceBNe, Nat.reduceBEq, List.append_nil, Int.toNat_zero, Nat.sub_self, frS, ptr]
  (refine hk _ ?_; clear hk k; try show Sat _ _ _ _ _)
  refine Sat.switch (cb := cb) (id := 0) (F' := Frm.codes cb) (fun b => Iff.rfl) rfl ?_
  (repeat refine Sat.seq ?_)
  (refine Sat.region_k fun k hk => ?_; simp -implicitDefEqProofs only [evr, id, reduceCtorEq, reduceIte, Nat.reduceMul, Nat.reduceAdd, Nat.reduceLT, Nat.reduceLeDiff, Nat.reduceEqDiff, Int.reduceLT, Int.reduceBEq, Int.reduceBNe, Nat.reduceBEq, List.append_nil, Int.toNat_zero, Nat.sub_self, frS, ptr])
  refine wcall_slice (fractionCdC cb 3 (by decide) (by decide)) rfl rfl ?_
  intro f hf
  obtain ⟨X, dx, hx⟩ := hf.v
  clear hf
  obtain ⟨gnx, gax, glx, gcx, gzx, grx, kax, klx, kcx, kzx, krx, rfl⟩ := hx.open
  simp only [frS, evr, id, reduceCtorEq, reduceIte, Nat.reduceMul, Nat.reduceAdd, Nat.reduceLT, Nat.reduceLeDiff, Nat.reduceEqDiff, Int.reduceLT, Int.reduceBEq, Int.reduceBNe, Nat.reduceBEq, List.append_nil, Int.toNat_zero, Nat.sub_self, frS, ptr]
  refine wcall_slice (fractionCdC cb 3 (by decide) (by decide)) rfl rfl ?_
  intro f hf
  obtain ⟨Y, dy, hy⟩ := hf.v
  clear hf
  obtain ⟨gny, gay, gly, gcy, gzy, gry, kay, kly, kcy, kzy, kry, rfl⟩ := hy.open
  simp only [frS, evr, id, reduceCtorEq, reduceIte, Nat.reduceMul, Nat.reduceAdd, Nat.reduceLT, Nat.reduceLeDiff, Nat.reduceEqDiff, Int.reduceLT, Int.reduceBEq, Int.reduceBNe, Nat.reduceBEq, List.append_nil, Int.toNat_zero, Nat.sub_self, frS, ptr]
  refine wcall_slice (fractionCdC cb 3 (by decide) (by decide)) rfl rfl ?_
  intro f hf
  obtain ⟨Z, dz, hz0⟩ := hf.v
  clear hf
  obtain ⟨gnz0, gaz0, glz0, gcz0, gzz0, grz0, kaz0, klz0, kcz0, kzz0, krz0, rfl⟩ := hz0.open
  simp only [frS, evr, id, reduceCtorEq, reduceIte, Nat.reduceMul, Nat.reduceAdd, Nat.reduceLT, Nat.reduceLeDiff, Nat.reduceEqDiff, Int.reduceLT, Int.reduceBEq, Int.reduceBNe, Nat.reduceBEq, List.append_nil, Int.toNat_zero, Nat.sub_self, frS, ptr]
  intro b4 b5 b6
  (refine hk _ ?_; clear hk k; try show Sat _ _ _ _ _)
  (repeat refine Sat.seq ?_)
  (refine Sat.region_k fun k hk => ?_; simp -implicitDefEqProofs only [evr, id, reduceCtorEq, reduceIte, Nat.reduceMul, Nat.reduceAdd, Nat.reduceLT, Nat.reduceLeDiff, Nat.reduceEqDiff, Int.reduceLT, Int.reduceBEq, Int.reduceBNe, Nat.reduceBEq, List.append_nil, Int.toNat_zero, Nat.sub_self, frS, ptr])
  refine wcall_slice (addV (Frm.codes cb) hx hy (by decide)) rfl (by simp only [frS, evr, id, reduceCtorEq, reduceIte, Nat.reduceMul, Nat.reduceAdd, Nat.reduceLT, Nat.reduceLeDiff, Nat.reduceEqDiff, Int.reduceLT, Int.reduceBEq, Int.reduceBNe, Nat.reduceBEq, List.append_nil, Int.toNat_zero, Nat.sub_self, frS, ptr]; try rfl) ?_
  rintro y0 ⟨f, rfl, ha⟩
  obtain ⟨gna, gaa, gla, gca, gza, gra, kaa, kla, kca, kza, kra, rfl⟩ := ha.open
  simp only [frS, evr, id, reduceCtorEq, reduceIte, Nat.reduceMul, Nat.reduceAdd, Nat.reduceLT, Nat.reduceLeDiff, Nat.reduceEqDiff, Int.reduceLT, Int.reduceBEq, Int.reduceBNe, Nat.reduceBEq, List.append_nil, Int.toNat_zero, Nat.sub_self, frS, ptr]
  intro bka
  (refine hk _ ?_; clear hk k; try show Sat _ _ _ _ _)
  (repeat refine Sat.seq ?_)
  (refine Sat.region_k fun k hk => ?_; simp -implicitDefEqProofs only [evr, id, reduceCtorEq, reduceIte, Nat.reduceMul, Nat.reduceAdd, Nat.reduceLT, Nat.reduceLeDiff, Nat.reduceEqDiff, Int.reduceLT, Int.reduceBEq, Int.reduceBNe, Nat.reduceBEq, List.append_nil, Int.toNat_zero, Nat.sub_self, frS, ptr])
  refine wcall_slice (addV (Frm.codes cb) hy hx (by decide)) rfl (by simp only [frS, evr, id, reduceCtorEq, reduceIte, Nat.reduceMul, Nat.reduceAdd, Nat.reduceLT, Nat.reduceLeDiff, Nat.reduceEqDiff, Int.reduceLT, Int.reduceBEq, Int.reduceBNe, Nat.reduceBEq, List.append_nil, Int.toNat_zero, Nat.sub_self, frS, ptr]; try rfl) ?_
  rintro y0 ⟨f, rfl, hb⟩
  obtain ⟨gnb, gab, glb, gcb, gzb, grb, kab, klb, kcb, kzb, krb, rfl⟩ := hb.open
  simp only [frS, evr, id, reduceCtorEq, reduceIte, Nat.reduceMul, Nat.reduceAdd, Nat.reduceLT, Nat.reduceLeDiff, Nat.reduceEqDiff, Int.reduceLT, Int.reduceBEq, Int.reduceBNe, Nat.reduceBEq, List.append_nil, Int.toNat_zero, Nat.sub_self, frS, ptr]
  intro bkb
  (refine hk _ ?_; clear hk k; try show Sat _ _ _ _ _)
  (repeat refine Sat.seq ?_)
  (refine Sat.region_k fun k hk => ?_; simp -implicitDefEqProofs only [evr, id, reduceCtorEq, reduceIte, Nat.reduceMul, Nat.reduceAdd, Nat.reduceLT, Nat.reduceLeDiff, Nat.reduceEqDiff, Int.reduceLT, Int.reduceBEq, Int.reduceBNe, Nat.reduceBEq, List.append_nil, Int.toNat_zero, Nat.sub_self, frS, ptr])
  refine wcall_slice (addV (Frm.codes cb) ha.v hz0 (by decide)) rfl (by simp only [frS, evr, id, reduceCtorEq, reduceIte, Nat.reduceMul, Nat.reduceAdd, Nat.reduceLT, Nat.reduceLeDiff, Nat.reduceEqDiff, Int.reduceLT, Int.reduceBEq, Int.reduceBNe, Nat.reduceBEq, List.append_nil, Int.toNat_zero, Nat.sub_self, frS, ptr]; try rfl) ?_
  rintro y0 ⟨f, rfl, hl⟩
  obtain ⟨gnl, gal, gll, gcl, gzl, grl, kal, kll, kcl, kzl, krl, rfl⟩ := hl.open
  simp only [frS, evr, id, reduceCtorEq, reduceIte, Nat.reduceMul, Nat.reduceAdd, Nat.reduceLT, Nat.reduceLeDiff, Nat.reduceEqDiff, Int.reduceLT, Int.reduceBEq, Int.reduceBNe, Nat.reduceBEq, List.append_nil, Int.toNat_zero, Nat.sub_self, frS, ptr]
  intro bkl
  (refine hk _ ?_; clear hk k; try show Sat _ _ _ _ _)
  (repeat refine Sat.seq ?_)
  (refine Sat.region_k fun k hk => ?_; simp -implicitDefEqProofs only [evr, id, reduceCtorEq, reduceIte, Nat.reduceMul, Nat.reduceAdd, Nat.reduceLT, Nat.reduceLeDiff, Nat.reduceEqDiff, Int.reduceLT, Int.reduceBEq, Int.reduceBNe, Nat.reduceBEq, List.append_nil, Int.toNat_zero, Nat.sub_self, frS, ptr])
  refine wcall_slice (addV (Frm.codes cb) hy hz0 (by decide)) rfl (by simp only [frS, evr, id, reduceCtorEq, reduceIte, Nat.reduceMul, Nat.reduceAdd, Nat.reduceLT, Nat.reduceLeDiff, Nat.reduceEqDiff, Int.reduceLT, Int.reduceBEq, Int.reduceBNe, Nat.reduceBEq, List.append_nil, Int.toNat_zero, Nat.sub_self, frS, ptr]; try rfl) ?_
  rintro y0 ⟨f, rfl, hyz⟩
  obtain ⟨gnyz, gayz, glyz, gcyz, gzyz, gryz, kayz, klyz, kcyz, kzyz, kryz, rfl⟩ := hyz.open
  simp only [frS, evr, id, reduceCtorEq, reduceIte, Nat.reduceMul, Nat.reduceAdd, Nat.reduceLT, Nat.reduceLeDiff, Nat.reduceEqDiff, Int.reduceLT, Int.reduceBEq, Int.reduceBNe, Nat.reduceBEq, List.append_nil, Int.toNat_zero, Nat.sub_self, frS, ptr]
  intro bkyz
  (refine hk _ ?_; clear hk k; try show Sat _ _ _ _ _)
  (repeat refine Sat.seq ?_)
  (refine Sat.region_k fun k hk => ?_; simp -implicitDefEqProofs only [evr, id, reduceCtorEq, reduceIte, Nat.reduceMul, Nat.reduceAdd, Nat.reduceLT, Nat.reduceLeDiff, Nat.reduceEqDiff, Int.reduceLT, Int.reduceBEq, Int.reduceBNe, Nat.reduceBEq, List.append_nil, Int.toNat_zero, Nat.sub_self, frS, ptr])
  refine wcall_slice (addV (Frm.codes cb) hx hyz.v (by decide)) rfl (by simp only [frS, evr, id, reduceCtorEq, reduceIte, Nat.reduceMul, Nat.reduceAdd, Nat.reduceLT, Nat.reduceLeDiff, Nat.reduceEqDiff, Int.reduceLT, Int.reduceBEq, Int.reduceBNe, Nat.reduceBEq, List.append_nil, Int.toNat_zero, Nat.sub_self, frS, ptr]; try rfl) ?_
  rintro y0 ⟨f, rfl, hr⟩
  obtain ⟨gnr, gar, glr, gcr, gzr, grr, kar, klr, kcr, kzr, krr, rfl⟩ := hr.open
  simp only [frS, evr, id, reduceCtorEq, reduceIte, Nat.reduceMul, Nat.reduceAdd, Nat.reduceLT, Nat.reduceLeDiff, Nat.reduceEqDiff, Int.reduceLT, Int.reduceBEq, Int.reduceBNe, Nat.reduceBEq, List.append_nil, Int.toNat_zero, Nat.sub_self, frS, ptr]
  intro bkr
  (refine hk _ ?_; clear hk k; try show Sat _ _ _ _ _)
  (repeat refine Sat.seq ?_)
  (refine Sat.region_k fun k hk => ?_; simp -implicitDefEqProofs only [evr, id, reduceCtorEq, reduceIte, Nat.reduceMul, Nat.reduceAdd, Nat.reduceLT, Nat.reduceLeDiff, Nat.reduceEqDiff, Int.reduceLT, Int.reduceBEq, Int.reduceBNe, Nat.reduceBEq, List.append_nil, Int.toNat_zero, Nat.sub_self, frS, ptr])
  refine wcall_slice (mulV (Frm.codes cb) hx hyz.v (by decide)) rfl (by simp only [frS, evr, id, reduceCtorEq, reduceIte, Nat.reduceMul, Nat.reduceAdd, Nat.reduceLT, Nat.reduceLeDiff, Nat.reduceEqDiff, Int.reduceLT, Int.reduceBEq, Int.reduceBNe, Nat.reduceBEq, List.append_nil, Int.toNat_zero, Nat.sub_self, frS, ptr]; try rfl) ?_
  rintro y0 ⟨f, rfl, hm⟩
  obtain ⟨gnm, gam, glm, gcm, gzm, grm, kam, klm, kcm, kzm, krm, rfl⟩ := hm.open
  simp only [frS, evr, id, reduceCtorEq, reduceIte, Nat.reduceMul, Nat.reduceAdd, Nat.reduceLT, Nat.reduceLeDiff, Nat.reduceEqDiff, Int.reduceLT, Int.reduceBEq, Int.reduceBNe, Nat.reduceBEq, List.append_nil, Int.toNat_zero, Nat.sub_self, frS, ptr]
  intro bkm
  (refine hk _ ?_; clear hk k; try show Sat _ _ _ _ _)
  (repeat refine Sat.seq ?_)
  (refine Sat.region_k fun k hk => ?_; simp -implicitDefEqProofs only [evr, id, reduceCtorEq, reduceIte, Nat.reduceMul, Nat.reduceAdd, Nat.reduceLT, Nat.reduceLeDiff, Nat.reduceEqDiff, Int.reduceLT, Int.reduceBEq, Int.reduceBNe, Nat.reduceBEq, List.append_nil, Int.toNat_zero, Nat.sub_self, frS, ptr])
  refine wcall_slice (mulV (Frm.codes cb) hx hy (by decide)) rfl (by simp only [frS, evr, id, reduceCtorEq, reduceIte, Nat.reduceMul, Nat.reduceAdd, Nat.reduceLT, Nat.reduceLeDiff, Nat.reduceEqDiff, Int.reduceLT, Int.reduceBEq, Int.reduceBNe, Nat.reduceBEq, List.append_nil, Int.toNat_zero, Nat.sub_self, frS, ptr]; try rfl) ?_
  rintro y0 ⟨f, rfl, hp⟩
  obtain ⟨gnp, gap, glp, gcp, gzp, grp, kap, klp, kcp, kzp, krp, rfl⟩ := hp.open
  simp only [frS, evr, id, reduceCtorEq, reduceIte, Nat.reduceMul, Nat.reduceAdd, Nat.reduceLT, Nat.reduceLeDiff, Nat.reduceEqDiff, Int.reduceLT, Int.reduceBEq, Int.reduceBNe, Nat.reduceBEq, List.append_nil, Int.toNat_zero, Nat.sub_self, frS, ptr]
  intro bkp
  (refine hk _ ?_; clear hk k; try show Sat _ _ _ _ _)
  (repeat refine Sat.seq ?_)
  (refine Sat.region_k fun k hk => ?_; simp -implicitDefEqProofs only [evr, id, reduceCtorEq, reduceIte, Nat.reduceMul, Nat.reduceAdd, Nat.reduceLT, Nat.reduceLeDiff, Nat.reduceEqDiff, Int.reduceLT, Int.reduceBEq, Int.reduceBNe, Nat.reduceBEq, List.append_nil, Int.toNat_zero, Nat.sub_self, frS, ptr])
  refine wcall_slice (mulV (Frm.codes cb) hx hz0 (by decide)) rfl (by simp only [frS, evr, id, reduceCtorEq, reduceIte, Nat.reduceMul, Nat.reduceAdd, Nat.reduceLT, Nat.reduceLeDiff, Nat.reduceEqDiff, Int.reduceLT, Int.reduceBEq, Int.reduceBNe, Nat.reduceBEq, List.append_nil, Int.toNat_zero, Nat.sub_self, frS, ptr]; try rfl) ?_
  rintro y0 ⟨f, rfl, hq⟩
  obtain ⟨gnq, gaq, glq, gcq, gzq, grq, kaq, klq, kcq, kzq, krq, rfl⟩ := hq.open
  simp only [frS, evr, id, reduceCtorEq, reduceIte, Nat.reduceMul, Nat.reduceAdd, Nat.reduceLT, Nat.reduceLeDiff, Nat.reduceEqDiff, Int.reduceLT, Int.reduceBEq, Int.reduceBNe, Nat.reduceBEq, List.append_nil, Int.toNat_zero, Nat.sub_self, frS, ptr]
  intro bkq
  (refine hk _ ?_; clear hk k; try show Sat _ _ _ _ _)
  (repeat refine Sat.seq ?_)
  (refine Sat.region_k fun k hk => ?_; simp -implicitDefEqProofs only [evr, id, reduceCtorEq, reduceIte, Nat.reduceMul, Nat.reduceAdd, Nat.reduceLT, Nat.reduceLeDiff, Nat.reduceEqDiff, Int.reduceLT, Int.reduceBEq, Int.reduceBNe, Nat.reduceBEq, List.append_nil, Int.toNat_zero, Nat.sub_self, frS, ptr])
  refine wcall_slice (addV (Frm.codes cb) hp.v hq.v (by decide)) rfl (by simp only [frS, evr, id, reduceCtorEq, reduceIte, Nat.reduceMul, Nat.reduceAdd, Nat.reduceLT, Nat.reduceLeDiff, Nat.reduceEqDiff, Int.reduceLT, Int.reduceBEq, Int.reduceBNe, Nat.reduceBEq, List.append_nil, Int.toNat_zero, Nat.sub_self, frS, ptr]; try rfl) ?_
  rintro y0 ⟨f, rfl, hs⟩
  obtain ⟨gns, gas, gls, gcs, gzs, grs, kas, kls, kcs, kzs, krs, rfl⟩ := hs.open
  simp only [frS, evr, id, reduceCtorEq, reduceIte, Nat.reduceMul, Nat.reduceAdd, Nat.reduceLT, Nat.reduceLeDiff, Nat.reduceEqDiff, Int.reduceLT, Int.reduceBEq, Int.reduceBNe, Nat.reduceBEq, List.append_nil, Int.toNat_zero, Nat.sub_self, frS, ptr]
  intro bks
  (refine hk _ ?_; clear hk k; try show Sat _ _ _ _ _)
  (repeat refine Sat.seq ?_)
  (refine Sat.region_k fun k hk => ?_; simp -implicitDefEqProofs only [evr, id, reduceCtorEq, reduceIte, Nat.reduceMul, Nat.reduceAdd, Nat.reduceLT, Nat.reduceLeDiff, Nat.reduceEqDiff, Int.reduceLT, Int.reduceBEq, Int.reduceBNe, Nat.reduceBEq, List.append_nil, Int.toNat_zero, Nat.sub_self, frS, ptr])
  refine wcall_slice (subV (Frm.codes cb) ha.v hy (by decide)) rfl (by simp only [frS, evr, id, reduceCtorEq, reduceIte, Nat.reduceMul, Nat.reduceAdd, Nat.reduceLT, Nat.reduceLeDiff, Nat.reduceEqDiff, Int.reduceLT, Int.reduceBEq, Int.reduceBNe, Nat.reduceBEq, List.append_nil, Int.toNat_zero, Nat.sub_self, frS, ptr]; try rfl) ?_
  rintro y0 ⟨f, rfl, hd⟩
  obtain ⟨gnd, gad, gld, gcd, gzd, grd, kad, kld, kcd, kzd, krd, rfl⟩ := hd.open
  simp only [frS, evr, id, reduceCtorEq, reduceIte, Nat.reduceMul, Nat.reduceAdd, Nat.reduceLT, Nat.reduceLeDiff, Nat.reduceEqDiff, Int.reduceLT, Int.reduceBEq, Int.reduceBNe, Nat.reduceBEq, List.append_nil, Int.toNat_zero, Nat.sub_self, frS, ptr]
  intro bkd
  (refine hk _ ?_; clear hk k; try show Sat _ _ _ _ _)
  have q1 : (X * dy + Y * dx) * ((dy * dx : Nat) : Int) = (Y * dx + X * dy) * ((dx * dy : Nat) : Int) := by
    simp only [Int.natCast_mul, Int.add_mul, Int.mul_add, Int.neg_mul, Int.mul_neg, Int.mul_comm, Int.mul_left_comm, Int.mul_assoc] <;> omega
  have q2 : ((X * dy + Y * dx) * dz + Z * ((dx * dy : Nat) : Int)) * ((dx * (dy * dz) : Nat) : Int) = (X * ((dy * dz : Nat) : Int) + (Y * dz + Z * dy) * dx) * ((dx * dy * dz : Nat) : Int) := by
    simp only [Int.natCast_mul, Int.add_mul, Int.mul_add, Int.neg_mul, Int.mul_neg, Int.mul_comm, Int.mul_left_comm, Int.mul_assoc] <;> omega
  have q3 : (X * (Y * dz + Z * dy)) * ((dx * dy * (dx * dz) : Nat) : Int) = (X * Y * ((dx * dz : Nat) : Int) + X * Z * ((dx * dy : Nat) : Int)) * ((dx * (dy * dz) : Nat) : Int) := by
    simp only [Int.natCast_mul, Int.add_mul, Int.mul_add, Int.neg_mul, Int.mul_neg, Int.mul_comm, Int.mul_left_comm, Int.mul_assoc] <;> omega
  have q4 : ((X * dy + Y * dx) * dy + -Y * ((dx * dy : Nat) : Int)) * (dx : Int) = X * ((dx * dy * dy : Nat) : Int) := by
    simp only [Int.natCast_mul, Int.add_mul, Int.mul_add, Int.neg_mul, Int.mul_neg, Int.mul_comm, Int.mul_left_comm, Int.mul_assoc] <;> omega
  have s1 := sameV (Frm.codes cb) ha hb (by decide) (by decide) q1
  have s2 := sameV (Frm.codes cb) hl hr (by decide) (by decide) q2
  have s3 := sameV (Frm.codes cb) hm hs (by decide) (by decide) q3
  (repeat refine Sat.seq ?_)
  refine Sat.join2 (ι := Unit) (fun _ => ⟨142, [(121, .b false), (19, .op 9 bkp 0), (5, .op 1 b5 0), (4, .op 0 b4 0)], [.box b4 29 [.b gnx, .sl gax glx gcx gzx grx, .sl kax klx kcx kzx krx], .box b5 29 [.b gny, .sl gay gly gcy gzy gry, .sl kay kly kcy kzy kry], .gone, .gone, .gone, .gone, .gone, .gone, .gone, .box bkp 29 [.b gnp, .sl gap glp gcp gzp grp, .sl kap klp kcp kzp krp]]⟩) (fun _ => True) (fun hrest => ?_) ?_
  · (refine Sat.region_tree (.keep [0, 1] [] (.one 2 (.one 3 (.one 4 (.alt 5 (.one 6 (.one 7 (.one 8 (.one 9 (.one 10 (.alt 11 (.one 12 (.one 13 (.one 14 (.one 15 (.one 16 (.alt 17 (.one 18 (.one 19 (.one 20 (.one 21 (.one 22 .done))))) (.alt 18 (.alt 17 (.one 19 (.one 20 (.one 21 (.one 22 .done)))) (.alt 19 (.one 17 (.one 20 (.one 21 (.one 22 .done)))) .none)) .none))))))) (.alt 12 (.one 11 (.one 13 (.one 14 (.one 15 (.one 16 (.alt 17 (.one 18 (.one 19 (.one 20 (.one 21 (.one 22 .done))))) (.alt 18 (.alt 17 (.one 19 (.one 20 (.one 21 (.one 22 .done)))) (.alt 19 (.one 17 (.one 20 (.one 21 (.one 22 .done)))) .none)) .none))))))) .none))))))) (.alt 6 (.one 5 (.one 7 (.one 8 (.one 9 (.one 10 (.alt 11 (.one 12 (.one 13 (.one 14 (.one 15 (.one 16 (.alt 17 (.one 18 (.one 19 (.one 20 (.one 21 (.one 22 .done))))) (.alt 18 (.alt 17 (.one 19 (.one 20 (.one 21 (.one 22 .done)))) (.alt 19 (.one 17 (.one 20 (.one 21 (.one 22 .done)))) .none)) .none))))))) (.alt 12 (.one 11 (.one 13 (.one 14 (.one 15 (.one 16 (.alt 17 (.one 18 (.one 19 (.one 20 (.one 21 (.one 22 .done))))) (.alt 18 (.alt 17 (.one 19 (.one 20 (.one 21 (.one 22 .done)))) (.alt 19 (.one 17 (.one 20 (.one 21 (.one 22 .done)))) .none)) .none))))))) .none))))))) .none)))))) (by kernel_rfl) (by kernel_rfl) (fun _ _ h => h) fun k hk => ?_; simp only [WOT, List.map_cons, List.map_nil, List.getD_cons_zero, List.getD_cons_succ]; simp -implicitDefEqProofs only [evr, id, reduceCtorEq, reduceIte, Nat.reduceMul, Nat.reduceAdd, Nat.reduceLT, Nat.reduceLeDiff, Nat.reduceEqDiff, Int.reduceLT, Int.reduceBEq, Int.reduceBNe, Nat.reduceBEq, List.append_nil, Int.toNat_zero, Nat.sub_self, frS, ptr, WOT])
    repeat' (first
      | (refine And.intro ?_ ?_)
      | (refine wcall_plain s1 ?_ (fun _ h => by subst h; exact ok_plain rfl) ?_; (focus (simp only [frS, evr, id, reduceCtorEq, reduceIte, Nat.reduceMul, Nat.reduceAdd, Nat.reduceLT, Nat.reduceLeDiff, Nat.reduceEqDiff, Int.reduceLT, Int.reduceBEq, Int.reduceBNe, Nat.reduceBEq, List.append_nil, Int.toNat_zero, Nat.sub_self, frS, ptr]; try rfl)); rintro _ rfl; simp -implicitDefEqProofs only [evr, id, reduceCtorEq, reduceIte, Nat.reduceMul, Nat.reduceAdd, Nat.reduceLT, Nat.reduceLeDiff, Nat.reduceEqDiff, Int.reduceLT, Int.reduceBEq, Int.reduceBNe, Nat.reduceBEq, List.append_nil, Int.toNat_zero, Nat.sub_self, frS, ptr])
      | (refine wcall_plain s2 ?_ (fun _ h => by subst h; exact ok_plain rfl) ?_; (focus (simp only [frS, evr, id, reduceCtorEq, reduceIte, Nat.reduceMul, Nat.reduceAdd, Nat.reduceLT, Nat.reduceLeDiff, Nat.reduceEqDiff, Int.reduceLT, Int.reduceBEq, Int.reduceBNe, Nat.reduceBEq, List.append_nil, Int.toNat_zero, Nat.sub_self, frS, ptr]; try rfl)); rintro _ rfl; simp -implicitDefEqProofs only [evr, id, reduceCtorEq, reduceIte, Nat.reduceMul, Nat.reduceAdd, Nat.reduceLT, Nat.reduceLeDiff, Nat.reduceEqDiff, Int.reduceLT, Int.reduceBEq, Int.reduceBNe, Nat.reduceBEq, List.append_nil, Int.toNat_zero, Nat.sub_self, frS, ptr])
      | (refine wcall_plain s3 ?_ (fun _ h => by subst h; exact ok_plain rfl) ?_; (focus (simp only [frS, evr, id, reduceCtorEq, reduceIte, Nat.reduceMul, Nat.reduceAdd, Nat.reduceLT, Nat.reduceLeDiff, Nat.reduceEqDiff, Int.reduceLT, Int.reduceBEq, Int.reduceBNe, Nat.reduceBEq, List.append_nil, Int.toNat_zero, Nat.sub_self, frS, ptr]; try rfl)); rintro _ rfl; simp -implicitDefEqProofs only [evr, id, reduceCtorEq, reduceIte, Nat.reduceMul, Nat.reduceAdd, Nat.reduceLT, Nat.reduceLeDiff, Nat.reduceEqDiff, Int.reduceLT, Int.reduceBEq, Int.reduceBNe, Nat.reduceBEq, List.append_nil, Int.toNat_zero, Nat.sub_self, frS, ptr])
      | (refine wcall_slice (redV (Frm.codes cb) hx (by decide)) rfl (by simp only [frS, evr, id, reduceCtorEq, reduceIte, Nat.reduceMul, Nat.reduceAdd, Nat.reduceLT, Nat.reduceLeDiff, Nat.reduceEqDiff, Int.reduceLT, Int.reduceBEq, Int.reduceBNe, Nat.reduceBEq, List.append_nil, Int.toNat_zero, Nat.sub_self, frS, ptr]; try rfl) ?_; intro f hw; obtain ⟨gnw, gaw, glw, gcw, gzw, grw, kaw, klw, kcw, kzw, krw, rfl⟩ := hw.open; simp only [frS, evr, id, reduceCtorEq, reduceIte, Nat.reduceMul, Nat.reduceAdd, Nat.reduceLT, Nat.reduceLeDiff, Nat.reduceEqDiff, Int.reduceLT, Int.reduceBEq, Int.reduceBNe, Nat.reduceBEq, List.append_nil, Int.toNat_zero, Nat.sub_self, frS, ptr])
      | (refine wcall_plain (sameV (Frm.codes cb) hd hw (by decide) (by decide) q4) ?_ (fun _ h => by subst h; exact ok_plain rfl) ?_; (focus (simp only [frS, evr, id, reduceCtorEq, reduceIte, Nat.reduceMul, Nat.reduceAdd, Nat.reduceLT, Nat.reduceLeDiff, Nat.reduceEqDiff, Int.reduceLT, Int.reduceBEq, Int.reduceBNe, Nat.reduceBEq, List.append_nil, Int.toNat_zero, Nat.sub_self, frS, ptr]; try rfl)); rintro _ rfl; simp -implicitDefEqProofs only [evr, id, reduceCtorEq, reduceIte, Nat.reduceMul, Nat.reduceAdd, Nat.reduceLT, Nat.reduceLeDiff, Nat.reduceEqDiff, Int.reduceLT, Int.reduceBEq, Int.reduceBNe, Nat.reduceBEq, List.append_nil, Int.toNat_zero, Nat.sub_self, frS, ptr]))
    all_goals
      refine hk _ ?_
      clear hk
      simp only [thenK]
      refine Sat.le (hrest () trivial) ?_
      simp -implicitDefEqProofs only [evr, id, reduceCtorEq, reduceIte, Nat.reduceMul, Nat.reduceAdd, Nat.reduceLT, Nat.reduceLeDiff, Nat.reduceEqDiff, Int.reduceLT, Int.reduceBEq, Int.reduceBNe, Nat.reduceBEq, List.append_nil, Int.toNat_zero, Nat.sub_self, frS, ptr, evl]
  rintro _ _
  refine Sat.cond_b rfl (fun h => by cases h) (fun _ => ?_)
  refine Sat.skip ?_
  simp only [thenK]
  clear s1 s2 s3 q1 q2 q3 q4
  (repeat refine Sat.seq ?_)
  (refine Sat.region_k fun k hk => ?_; simp -implicitDefEqProofs only [evr, id, reduceCtorEq, reduceIte, Nat.reduceMul, Nat.reduceAdd, Nat.reduceLT, Nat.reduceLeDiff, Nat.reduceEqDiff, Int.reduceLT, Int.reduceBEq, Int.reduceBNe, Nat.reduceBEq, List.append_nil, Int.toNat_zero, Nat.sub_self, frS, ptr])
  refine wcall_slice (divV (Frm.codes cb) hp.v hy (by decide)) rfl (by simp only [frS, evr, id, reduceCtorEq, reduceIte, Nat.reduceMul, Nat.reduceAdd, Nat.reduceLT, Nat.reduceLeDiff, Nat.reduceEqDiff, Int.reduceLT, Int.reduceBEq, Int.reduceBNe, Nat.reduceBEq, List.append_nil, Int.toNat_zero, Nat.sub_self, frS, ptr]; try rfl) ?_
  rintro y0 (⟨hY, f, rfl, hf⟩ | ⟨hY, f, rfl, ht⟩)
  · obtain ⟨gnt, gat, glt, gct, gzt, grt, kat, klt, kct, kzt, krt, rfl⟩ := frS_open hf
    try simp only [frS, evr, id, reduceCtorEq, reduceIte, Nat.reduceMul, Nat.reduceAdd, Nat.reduceLT, Nat.reduceLeDiff, Nat.reduceEqDiff, Int.reduceLT, Int.reduceBEq, Int.reduceBNe, Nat.reduceBEq, List.append_nil, Int.toNat_zero, Nat.sub_self, frS, ptr]
    intro bkt
    (refine hk _ ?_; clear hk k; try show Sat _ _ _ _ _)
    (repeat refine Sat.seq ?_)
    (refine Sat.region_k fun k hk => ?_; simp -implicitDefEqProofs only [evr, id, reduceCtorEq, reduceIte, Nat.reduceMul, Nat.reduceAdd, Nat.reduceLT, Nat.reduceLeDiff, Nat.reduceEqDiff, Int.reduceLT, Int.reduceBEq, Int.reduceBNe, Nat.reduceBEq, List.append_nil, Int.toNat_zero, Nat.sub_self, frS, ptr]; refine hk _ ?_; clear hk k; try show Sat _ _ _ _ _)
    refine Sat.cond_b (frV_zero hy) (fun _ => ?_) (fun h => absurd hY (of_decide_eq_false h))
    try simp only [thenK]
    (repeat refine Sat.seq ?_)
    (refine Sat.region_k fun k hk => ?_; simp -implicitDefEqProofs only [evr, id, reduceCtorEq, reduceIte, Nat.reduceMul, Nat.reduceAdd, Nat.reduceLT, Nat.reduceLeDiff, Nat.reduceEqDiff, Int.reduceLT, Int.reduceBEq, Int.reduceBNe, Nat.reduceBEq, List.append_nil, Int.toNat_zero, Nat.sub_self, frS, ptr]; refine hk _ ?_; clear hk k; try show Sat _ _ _ _ _)
    refine Sat.ret ?_
    simp only [Tryd.results3, evr, id, reduceCtorEq, reduceIte, Nat.reduceMul, Nat.reduceAdd, Nat.reduceLT, Nat.reduceLeDiff, Nat.reduceEqDiff, Int.reduceLT, Int.reduceBEq, Int.reduceBNe, Nat.reduceBEq, List.append_nil, Int.toNat_zero, Nat.sub_self, frS, ptr]
  · obtain ⟨gnt, gat, glt, gct, gzt, grt, kat, klt, kct, kzt, krt, rfl⟩ := ht.open
    try simp only [frS, evr, id, reduceCtorEq, reduceIte, Nat.reduceMul, Nat.reduceAdd, Nat.reduceLT, Nat.reduceLeDiff, Nat.reduceEqDiff, Int.reduceLT, Int.reduceBEq, Int.reduceBNe, Nat.reduceBEq, List.append_nil, Int.toNat_zero, Nat.sub_self, frS, ptr]
    intro bkt
    (refine hk _ ?_; clear hk k; try show Sat _ _ _ _ _)
    (repeat refine Sat.seq ?_)
    (refine Sat.region_k fun k hk => ?_; simp -implicitDefEqProofs only [evr, id, reduceCtorEq, reduceIte, Nat.reduceMul, Nat.reduceAdd, Nat.reduceLT, Nat.reduceLeDiff, Nat.reduceEqDiff, Int.reduceLT, Int.reduceBEq, Int.reduceBNe, Nat.reduceBEq, List.append_nil, Int.toNat_zero, Nat.sub_self, frS, ptr]; refine hk _ ?_; clear hk k; try show Sat _ _ _ _ _)
    refine Sat.cond_b (frV_zero hy) (fun h => absurd (of_decide_eq_true h) hY) (fun _ => ?_)
    refine Sat.skip ?_
    simp only [thenK]
    have q5 : X * Y * (dy : Int) * Y.sign * (dx : Int) = X * ((dx * dy * Y.natAbs : Nat) : Int) := by
      have hs : Y * Y.sign = (Y.natAbs : Int) := Int.mul_sign_self Y
      rw [Int.natCast_mul, Int.natCast_mul, ← hs]
      simp only [Int.mul_comm, Int.mul_left_comm, Int.mul_assoc]
    (repeat refine Sat.seq ?_)
    (refine Sat.region_tree (.keep [0, 1, 2, 3, 4] [5] (.one 5 (.one 6 (.one 7 (.one 8 .done))))) (by kernel_rfl) (by kernel_rfl) (fun _ _ h => h) fun k hk => ?_; simp only [WOT, List.map_cons, List.map_nil, List.getD_cons_zero, List.getD_cons_succ]; simp -implicitDefEqProofs only [evr, id, reduceCtorEq, reduceIte, Nat.reduceMul, Nat.reduceAdd, Nat.reduceLT, Nat.reduceLeDiff, Nat.reduceEqDiff, Int.reduceLT, Int.reduceBEq, Int.reduceBNe, Nat.reduceBEq, List.append_nil, Int.toNat_zero, Nat.sub_self, frS, ptr, WOT])
    repeat' (first
      | (refine And.intro ?_ ?_)
      | (refine wcall_slice (redV (Frm.codes cb) hx (by decide)) rfl (by simp only [frS, evr, id, reduceCtorEq, reduceIte, Nat.reduceMul, Nat.reduceAdd, Nat.reduceLT, Nat.reduceLeDiff, Nat.reduceEqDiff, Int.reduceLT, Int.reduceBEq, Int.reduceBNe, Nat.reduceBEq, List.append_nil, Int.toNat_zero, Nat.sub_self, frS, ptr]; try rfl) ?_; intro f hw; obtain ⟨gnw, gaw, glw, gcw, gzw, grw, kaw, klw, kcw, kzw, krw, rfl⟩ := hw.open; simp only [frS, evr, id, reduceCtorEq, reduceIte, Nat.reduceMul, Nat.reduceAdd, Nat.reduceLT, Nat.reduceLeDiff, Nat.reduceEqDiff, Int.reduceLT, Int.reduceBEq, Int.reduceBNe, Nat.reduceBEq, List.append_nil, Int.toNat_zero, Nat.sub_self, frS, ptr])
      | (refine wcall_plain (sameV (Frm.codes cb) ht hw (by decide) (by decide) q5) ?_ (fun _ h => by subst h; exact ok_plain rfl) ?_; (focus (simp only [frS, evr, id, reduceCtorEq, reduceIte, Nat.reduceMul, Nat.reduceAdd, Nat.reduceLT, Nat.reduceLeDiff, Nat.reduceEqDiff, Int.reduceLT, Int.reduceBEq, Int.reduceBNe, Nat.reduceBEq, List.append_nil, Int.toNat_zero, Nat.sub_self, frS, ptr]; try rfl)); rintro _ rfl; simp -implicitDefEqProofs only [evr, id, reduceCtorEq, reduceIte, Nat.reduceMul, Nat.reduceAdd, Nat.reduceLT, Nat.reduceLeDiff, Nat.reduceEqDiff, Int.reduceLT, Int.reduceBEq, Int.reduceBNe, Nat.reduceBEq, List.append_nil, Int.toNat_zero, Nat.sub_self, frS, ptr]))
    all_goals
      refine hk _ ?_
      clear hk
      simp only [thenK]
    all_goals
      refine Sat.ret ?_
      simp only [Tryd.results3, evr, id, reduceCtorEq, reduceIte, Nat.reduceMul, Nat.reduceAdd, Nat.reduceLT, Nat.reduceLeDiff, Nat.reduceEqDiff, Int.reduceLT, Int.reduceBEq, Int.reduceBNe, Nat.reduceBEq, List.append_nil, Int.toNat_zero, Nat.sub_self, frS, ptr]
theorem field_holds : Rows.FractionFieldCardSaid := fractionField.card_of_walk fun a0 z0 w hL ⟨h, hz⟩ => by
  obtain ⟨a, cap, rfl, hok⟩ := slB_of h
  exact walk_of (fieldC a cap z0 hz) (fun s hs => by rw [List.mem_singleton.1 hs]; exact hok)
end Go.Proofs.YtjaplngagbiimaaDoor
