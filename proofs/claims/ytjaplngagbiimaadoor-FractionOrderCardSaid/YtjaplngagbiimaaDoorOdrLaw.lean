/- FractionOrder: Compare agrees with the difference, is antisymmetric and transitive and is kept by sums. The law holds of every input. -/
import Derived.Test.YtjaplngagbiimaaDoorPk2
set_option linter.unusedSimpArgs false
set_option linter.unusedVariables false
namespace Go.Proofs.YtjaplngagbiimaaDoor
open Eng Lmb Go.RowKit

theorem sgI_cases (n : Int) : (n < 0 ∧ sgI n = -1) ∨ (n = 0 ∧ sgI n = 0) ∨ (0 < n ∧ sgI n = 1) := by
  unfold sgI
  rcases (show n < 0 ∨ n = 0 ∨ 0 < n by omega) with h | h | h
  · exact .inl ⟨h, if_pos h⟩
  · subst h; exact .inr (.inl ⟨rfl, rfl⟩)
  · exact .inr (.inr ⟨h, by rw [if_neg (by omega), if_pos h]⟩)
theorem compareE (F : Frm) {a b : SV} {n m : Int} {d e k1 k2 : Nat} (ha : FrV a n d k1) (hb : FrV b m e k2) (hk : k1 + k2 + 1 < 1900) : Contract F Tryd.prog 16 [a, b] (fun x => ∃ c, x = tupL [.i .i64 c, .i .i64 0] ∧ c = sgI (n * e + -m * d)) := (compareV F ha hb hk).mono fun x h => ⟨_, h, rfl⟩
theorem sgI_neg {n m : Int} (h : m = -n) : sgI m = -sgI n := by
  subst h
  rcases sgI_cases n with ⟨h1, h2⟩ | ⟨h1, h2⟩ | ⟨h1, h2⟩ <;> rcases sgI_cases (-n) with ⟨h3, h4⟩ | ⟨h3, h4⟩ | ⟨h3, h4⟩ <;> first | omega | (rw [h2, h4] <;> rfl)
theorem frR_neg {neg : Bool} {s t : SV} {n : Int} {d k : Nat} (h : FrR (frS neg s t) n d k) : neg = decide (n < 0) := by
  obtain ⟨⟨sp, sq, he, _⟩, _⟩ := h
  have he' := congrArg (fun v => match v with | .agg _ g => g 0 | x => x) he
  simp only [frS, List.getD_cons_zero, SV.b.injEq] at he'
  rw [he']
  rfl
theorem frac_trans {X Y Z : Int} {dx dy dz : Nat} (hx : 0 < dx) (hy : 0 < dy) (hz : 0 < dz) (h1 : X * dy + -Y * dx ≤ 0) (h2 : Y * dz + -Z * dy ≤ 0) : X * dz + -Z * dx ≤ 0 := by
  have hdx : (0 : Int) < dx := by omega
  have hdy : (0 : Int) < dy := by omega
  have hdz : (0 : Int) < dz := by omega
  have e1 : X * dy ≤ Y * dx := by rw [Int.neg_mul] at h1; omega
  have e2 : Y * dz ≤ Z * dy := by rw [Int.neg_mul] at h2; omega
  have e3 := Int.mul_le_mul_of_nonneg_right e1 (Int.le_of_lt hdz)
  have e4 := Int.mul_le_mul_of_nonneg_right e2 (Int.le_of_lt hdx)
  have e5 : X * dz * dy ≤ Z * dx * dy := by
    have a1 : X * dz * dy = X * dy * dz := by simp only [Int.mul_comm, Int.mul_left_comm, Int.mul_assoc]
    have a2 : Y * dx * dz = Y * dz * dx := by simp only [Int.mul_comm, Int.mul_left_comm, Int.mul_assoc]
    have a3 : Z * dy * dx = Z * dx * dy := by simp only [Int.mul_comm, Int.mul_left_comm, Int.mul_assoc]
    rw [a1, ← a3]
    exact Int.le_trans e3 (a2 ▸ e4)
  have e6 := Int.le_of_mul_le_mul_right e5 hdy
  rw [Int.neg_mul]
  omega

set_option maxHeartbeats 4000000 in
set_option maxRecDepth 100000 in
theorem orderC (a : Option Addr) (cap : Nat) (z : List Int) (hz : ∀ n ∈ z, (Lit.int .u8 n).wf = true) : Contract Frm.nil Tryd.prog 4 [slB a cap z] (fun r => r = .b true) := by
  have hb := slB_bytes3 a cap z hz
  refine contract_of Tryd.func4 rfl (by kernel_rfl) ?_
  simp only [Tryd.ntmps4, argEnv]
  (repeat refine Sat.seq ?_)
  (refine Sat.region_k fun k hk => ?_; simp -implicitDefEqProofs only [evr, id, reduceCtorEq, reduceIte, Nat.reduceMul, Nat.reduceAdd, Nat.reduceLT, Nat.reduceLeDiff, Nat.reduceEqDiff, Int.reduceLT, Int.reduceBEq, Int.reduceBNe, Nat.reduceBEq, List.append_nil, Int.toNat_zero, Nat.sub_self, frS, ptr]; refine hk _ ?_; clear hk k; try show Sat _ _ _ _ _)
  (repeat refine Sat.seq ?_)
  (refine Sat.region_k fun k hk => ?_; simp -implicitDefEqProofs only [evr, id, reduceCtorEq, reduceIte, Nat.reduceMul, Nat.reduceAdd, Nat.reduceLT, Nat.reduceLeDiff, Nat.reduceEqDiff, Int.reduceLT, Int.reduceBEq, Int.reduceBNe, Nat.reduceBEq, List.append_nil, Int.toNat_zero, Nat.sub_self, frS, ptr])
  refine wcall_plain (awakeC Frm.nil) rfl (by rintro _ rfl; exact ok_plain rfl) ?_
  rintro r rfl
  simp -implicitDefEqProofs only [evr, id, reduceCtorEq, reduceIte, Nat.reduceMul, Nat.reduceAdd, Nat.reduceLT, Nat.reduceLeDiff, Nat.reduceEqDiff, Int.reduceLT, Int.reduceBEq, Int.reduceBNe, Nat.reduceBEq, List.append_nil, Int.toNat_zero, Nat.sub_self, frS, ptr]
  (refine hk _ ?_; clear hk k; try show Sat _ _ _ _ _)
  (repeat refine Sat.seq ?_)
  refine Sat.cond_b rfl (fun h => absurd h (by decide)) (fun _ => ?_)
  refine Sat.skip ?_
  simp only [thenK]
  refine Sat.seq ?_
  (refine Sat.region_k fun k hk => ?_; simp -implicitDefEqProofs only [evr, id, reduceCtorEq, reduceIte, Nat.reduceMul, Nat.reduceAdd, Nat.reduceLT, Nat.reduceLeDiff, Nat.reduceEqDiff, Int.reduceLT, Int.reduceBEq, Int.reduceBNe, Nat.reduceBEq, List.append_nil, Int.toNat_zero, Nat.sub_self, frS, ptr])
  refine wcall_make (newRC (slB a cap z) hb 200 (by decide)) ?_
  intro cb
  simp -implicitDefEqProofs only [evr, id, reduceCtorEq, reduceIte, Nat.reduceMul, Nat.reduceAdd, Nat.reduceLT, Nat.reduceLeDiff, Nat.reduceEqDiff, Int.reduceLT, Int.reduceBEq, Int.reduceBNe, Nat.reduceBEq, List.append_nil, Int.toNat_zero, Nat.sub_self, frS, ptr]
  (refine hk _ ?_; clear hk k; try show Sat _ _ _ _ _)
  refine Sat.switch (cb := cb) (id := 0) (F' := Frm.codes cb) (fun b => Iff.rfl) rfl ?_
  (repeat refine Sat.seq ?_)
  (refine Sat.region_k fun k hk => ?_; simp -implicitDefEqProofs only [evr, id, reduceCtorEq, reduceIte, Nat.reduceMul, Nat.reduceAdd, Nat.reduceLT, Nat.reduceLeDiff, Nat.reduceEqDiff, Int.reduceLT, Int.reduceBEq, Int.reduceBNe, Nat.reduceBEq, List.append_nil, Int.toNat_zero, Nat.sub_self, frS, ptr])
  refine wcall_slice (fractionCdC cb 3 (by decide) (by decide)) rfl rfl ?_
  intro f hf
  obtain ⟨X, dx, hx⟩ := hf.v
  clear hf
  obtain ⟨gnx, gax, glx, gcx, gzx, grx, kax, klx, kcx, kzx, krx, rfl⟩ := hx.open
  simp only [frS, evr, id, reduceCtorEq, reduceIte, Nat.reduceMul, Nat.reduceAdd, Nat.reduceLT, Nat.reduceLeDiff, Nat.reduceEqDiff, Int.reduceLT, Int.reduceBEq, Int.reduceBNe, Nat.reduceBEq, List.append_nil, Int.toNat_zero, Nat.sub_self, frS, ptr]
  refine wcall_slice (fractionCdC cb 3 (by decide) (by decide)) rfl rfl ?_
  intro f hf
  obtain ⟨Y, dy, hy⟩ := hf.v
  clear hf
  obtain ⟨gny, gay, gly, gcy, gzy, gry, kay, kly, kcy, kzy, kry, rfl⟩ := hy.open
  simp only [frS, evr, id, reduceCtorEq, reduceIte, Nat.reduceMul, Nat.reduceAdd, Nat.reduceLT, Nat.reduceLeDiff, Nat.reduceEqDiff, Int.reduceLT, Int.reduceBEq, Int.reduceBNe, Nat.reduceBEq, List.append_nil, Int.toNat_zero, Nat.sub_self, frS, ptr]
  refine wcall_slice (fractionCdC cb 3 (by decide) (by decide)) rfl rfl ?_
  intro f hf
  obtain ⟨Z, dz, hz0⟩ := hf.v
  clear hf
  obtain ⟨gnz0, gaz0, glz0, gcz0, gzz0, grz0, kaz0, klz0, kcz0, kzz0, krz0, rfl⟩ := hz0.open
  simp only [frS, evr, id, reduceCtorEq, reduceIte, Nat.reduceMul, Nat.reduceAdd, Nat.reduceLT, Nat.reduceLeDiff, Nat.reduceEqDiff, Int.reduceLT, Int.reduceBEq, Int.reduceBNe, Nat.reduceBEq, List.append_nil, Int.toNat_zero, Nat.sub_self, frS, ptr]
  intro b4 b5 b6
  (refine hk _ ?_; clear hk k; try show Sat _ _ _ _ _)
  (repeat refine Sat.seq ?_)
  (refine Sat.region_k fun k hk => ?_; simp -implicitDefEqProofs only [evr, id, reduceCtorEq, reduceIte, Nat.reduceMul, Nat.reduceAdd, Nat.reduceLT, Nat.reduceLeDiff, Nat.reduceEqDiff, Int.reduceLT, Int.reduceBEq, Int.reduceBNe, Nat.reduceBEq, List.append_nil, Int.toNat_zero, Nat.sub_self, frS, ptr])
  refine wcall_slice (compareE (Frm.codes cb) hx hy (by decide)) rfl (by simp only [frS, evr, id, reduceCtorEq, reduceIte, Nat.reduceMul, Nat.reduceAdd, Nat.reduceLT, Nat.reduceLeDiff, Nat.reduceEqDiff, Int.reduceLT, Int.reduceBEq, Int.reduceBNe, Nat.reduceBEq, List.append_nil, Int.toNat_zero, Nat.sub_self, frS, ptr]; try rfl) ?_
  rintro _ ⟨c1, rfl, hc1⟩
  try simp -implicitDefEqProofs only [evr, id, reduceCtorEq, reduceIte, Nat.reduceMul, Nat.reduceAdd, Nat.reduceLT, Nat.reduceLeDiff, Nat.reduceEqDiff, Int.reduceLT, Int.reduceBEq, Int.reduceBNe, Nat.reduceBEq, List.append_nil, Int.toNat_zero, Nat.sub_self, frS, ptr]
  (refine hk _ ?_; clear hk k; try show Sat _ _ _ _ _)
  (repeat refine Sat.seq ?_)
  (refine Sat.region_k fun k hk => ?_; simp -implicitDefEqProofs only [evr, id, reduceCtorEq, reduceIte, Nat.reduceMul, Nat.reduceAdd, Nat.reduceLT, Nat.reduceLeDiff, Nat.reduceEqDiff, Int.reduceLT, Int.reduceBEq, Int.reduceBNe, Nat.reduceBEq, List.append_nil, Int.toNat_zero, Nat.sub_self, frS, ptr])
  refine wcall_slice (compareE (Frm.codes cb) hy hx (by decide)) rfl (by simp only [frS, evr, id, reduceCtorEq, reduceIte, Nat.reduceMul, Nat.reduceAdd, Nat.reduceLT, Nat.reduceLeDiff, Nat.reduceEqDiff, Int.reduceLT, Int.reduceBEq, Int.reduceBNe, Nat.reduceBEq, List.append_nil, Int.toNat_zero, Nat.sub_self, frS, ptr]; try rfl) ?_
  rintro _ ⟨c2, rfl, hc2⟩
  try simp -implicitDefEqProofs only [evr, id, reduceCtorEq, reduceIte, Nat.reduceMul, Nat.reduceAdd, Nat.reduceLT, Nat.reduceLeDiff, Nat.reduceEqDiff, Int.reduceLT, Int.reduceBEq, Int.reduceBNe, Nat.reduceBEq, List.append_nil, Int.toNat_zero, Nat.sub_self, frS, ptr]
  (refine hk _ ?_; clear hk k; try show Sat _ _ _ _ _)
  (repeat refine Sat.seq ?_)
  (refine Sat.region_k fun k hk => ?_; simp -implicitDefEqProofs only [evr, id, reduceCtorEq, reduceIte, Nat.reduceMul, Nat.reduceAdd, Nat.reduceLT, Nat.reduceLeDiff, Nat.reduceEqDiff, Int.reduceLT, Int.reduceBEq, Int.reduceBNe, Nat.reduceBEq, List.append_nil, Int.toNat_zero, Nat.sub_self, frS, ptr])
  refine wcall_slice (subV (Frm.codes cb) hx hy (by decide)) rfl (by simp only [frS, evr, id, reduceCtorEq, reduceIte, Nat.reduceMul, Nat.reduceAdd, Nat.reduceLT, Nat.reduceLeDiff, Nat.reduceEqDiff, Int.reduceLT, Int.reduceBEq, Int.reduceBNe, Nat.reduceBEq, List.append_nil, Int.toNat_zero, Nat.sub_self, frS, ptr]; try rfl) ?_
  rintro y0 ⟨f, rfl, hd⟩
  obtain ⟨gnd, gad, gld, gcd, gzd, grd, kad, kld, kcd, kzd, krd, rfl⟩ := hd.open
  simp only [frS, evr, id, reduceCtorEq, reduceIte, Nat.reduceMul, Nat.reduceAdd, Nat.reduceLT, Nat.reduceLeDiff, Nat.reduceEqDiff, Int.reduceLT, Int.reduceBEq, Int.reduceBNe, Nat.reduceBEq, List.append_nil, Int.toNat_zero, Nat.sub_self, frS, ptr]
  intro bkd
  (refine hk _ ?_; clear hk k; try show Sat _ _ _ _ _)
  (repeat refine Sat.seq ?_)
  (refine Sat.region_k fun k hk => ?_; simp -implicitDefEqProofs only [evr, id, reduceCtorEq, reduceIte, Nat.reduceMul, Nat.reduceAdd, Nat.reduceLT, Nat.reduceLeDiff, Nat.reduceEqDiff, Int.reduceLT, Int.reduceBEq, Int.reduceBNe, Nat.reduceBEq, List.append_nil, Int.toNat_zero, Nat.sub_self, frS, ptr])
  refine wcall_slice (compareE (Frm.codes cb) hy hz0 (by decide)) rfl (by simp only [frS, evr, id, reduceCtorEq, reduceIte, Nat.reduceMul, Nat.reduceAdd, Nat.reduceLT, Nat.reduceLeDiff, Nat.reduceEqDiff, Int.reduceLT, Int.reduceBEq, Int.reduceBNe, Nat.reduceBEq, List.append_nil, Int.toNat_zero, Nat.sub_self, frS, ptr]; try rfl) ?_
  rintro _ ⟨c3, rfl, hc3⟩
  try simp -implicitDefEqProofs only [evr, id, reduceCtorEq, reduceIte, Nat.reduceMul, Nat.reduceAdd, Nat.reduceLT, Nat.reduceLeDiff, Nat.reduceEqDiff, Int.reduceLT, Int.reduceBEq, Int.reduceBNe, Nat.reduceBEq, List.append_nil, Int.toNat_zero, Nat.sub_self, frS, ptr]
  (refine hk _ ?_; clear hk k; try show Sat _ _ _ _ _)
  (repeat refine Sat.seq ?_)
  (refine Sat.region_k fun k hk => ?_; simp -implicitDefEqProofs only [evr, id, reduceCtorEq, reduceIte, Nat.reduceMul, Nat.reduceAdd, Nat.reduceLT, Nat.reduceLeDiff, Nat.reduceEqDiff, Int.reduceLT, Int.reduceBEq, Int.reduceBNe, Nat.reduceBEq, List.append_nil, Int.toNat_zero, Nat.sub_self, frS, ptr])
  refine wcall_slice (compareE (Frm.codes cb) hx hz0 (by decide)) rfl (by simp only [frS, evr, id, reduceCtorEq, reduceIte, Nat.reduceMul, Nat.reduceAdd, Nat.reduceLT, Nat.reduceLeDiff, Nat.reduceEqDiff, Int.reduceLT, Int.reduceBEq, Int.reduceBNe, Nat.reduceBEq, List.append_nil, Int.toNat_zero, Nat.sub_self, frS, ptr]; try rfl) ?_
  rintro _ ⟨c4, rfl, hc4⟩
  try simp -implicitDefEqProofs only [evr, id, reduceCtorEq, reduceIte, Nat.reduceMul, Nat.reduceAdd, Nat.reduceLT, Nat.reduceLeDiff, Nat.reduceEqDiff, Int.reduceLT, Int.reduceBEq, Int.reduceBNe, Nat.reduceBEq, List.append_nil, Int.toNat_zero, Nat.sub_self, frS, ptr]
  (refine hk _ ?_; clear hk k; try show Sat _ _ _ _ _)
  (repeat refine Sat.seq ?_)
  (refine Sat.region_k fun k hk => ?_; simp -implicitDefEqProofs only [evr, id, reduceCtorEq, reduceIte, Nat.reduceMul, Nat.reduceAdd, Nat.reduceLT, Nat.reduceLeDiff, Nat.reduceEqDiff, Int.reduceLT, Int.reduceBEq, Int.reduceBNe, Nat.reduceBEq, List.append_nil, Int.toNat_zero, Nat.sub_self, frS, ptr])
  refine wcall_slice (addV (Frm.codes cb) hx hz0 (by decide)) rfl (by simp only [frS, evr, id, reduceCtorEq, reduceIte, Nat.reduceMul, Nat.reduceAdd, Nat.reduceLT, Nat.reduceLeDiff, Nat.reduceEqDiff, Int.reduceLT, Int.reduceBEq, Int.reduceBNe, Nat.reduceBEq, List.append_nil, Int.toNat_zero, Nat.sub_self, frS, ptr]; try rfl) ?_
  rintro y0 ⟨f, rfl, hp⟩
  obtain ⟨gnp, gap, glp, gcp, gzp, grp, kap, klp, kcp, kzp, krp, rfl⟩ := hp.open
  simp only [frS, evr, id, reduceCtorEq, reduceIte, Nat.reduceMul, Nat.reduceAdd, Nat.reduceLT, Nat.reduceLeDiff, Nat.reduceEqDiff, Int.reduceLT, Int.reduceBEq, Int.reduceBNe, Nat.reduceBEq, List.append_nil, Int.toNat_zero, Nat.sub_self, frS, ptr]
  intro bkp
  (refine hk _ ?_; clear hk k; try show Sat _ _ _ _ _)
  (repeat refine Sat.seq ?_)
  (refine Sat.region_k fun k hk => ?_; simp -implicitDefEqProofs only [evr, id, reduceCtorEq, reduceIte, Nat.reduceMul, Nat.reduceAdd, Nat.reduceLT, Nat.reduceLeDiff, Nat.reduceEqDiff, Int.reduceLT, Int.reduceBEq, Int.reduceBNe, Nat.reduceBEq, List.append_nil, Int.toNat_zero, Nat.sub_self, frS, ptr])
  refine wcall_slice (addV (Frm.codes cb) hy hz0 (by decide)) rfl (by simp only [frS, evr, id, reduceCtorEq, reduceIte, Nat.reduceMul, Nat.reduceAdd, Nat.reduceLT, Nat.reduceLeDiff, Nat.reduceEqDiff, Int.reduceLT, Int.reduceBEq, Int.reduceBNe, Nat.reduceBEq, List.append_nil, Int.toNat_zero, Nat.sub_self, frS, ptr]; try rfl) ?_
  rintro y0 ⟨f, rfl, hq⟩
  obtain ⟨gnq, gaq, glq, gcq, gzq, grq, kaq, klq, kcq, kzq, krq, rfl⟩ := hq.open
  simp only [frS, evr, id, reduceCtorEq, reduceIte, Nat.reduceMul, Nat.reduceAdd, Nat.reduceLT, Nat.reduceLeDiff, Nat.reduceEqDiff, Int.reduceLT, Int.reduceBEq, Int.reduceBNe, Nat.reduceBEq, List.append_nil, Int.toNat_zero, Nat.sub_self, frS, ptr]
  intro bkq
  (refine hk _ ?_; clear hk k; try show Sat _ _ _ _ _)
  (repeat refine Sat.seq ?_)
  (refine Sat.region_k fun k hk => ?_; simp -implicitDefEqProofs only [evr, id, reduceCtorEq, reduceIte, Nat.reduceMul, Nat.reduceAdd, Nat.reduceLT, Nat.reduceLeDiff, Nat.reduceEqDiff, Int.reduceLT, Int.reduceBEq, Int.reduceBNe, Nat.reduceBEq, List.append_nil, Int.toNat_zero, Nat.sub_self, frS, ptr])
  refine wcall_slice (compareE (Frm.codes cb) hp.v hq.v (by decide)) rfl (by simp only [frS, evr, id, reduceCtorEq, reduceIte, Nat.reduceMul, Nat.reduceAdd, Nat.reduceLT, Nat.reduceLeDiff, Nat.reduceEqDiff, Int.reduceLT, Int.reduceBEq, Int.reduceBNe, Nat.reduceBEq, List.append_nil, Int.toNat_zero, Nat.sub_self, frS, ptr]; try rfl) ?_
  rintro _ ⟨c5, rfl, hc5⟩
  try simp -implicitDefEqProofs only [evr, id, reduceCtorEq, reduceIte, Nat.reduceMul, Nat.reduceAdd, Nat.reduceLT, Nat.reduceLeDiff, Nat.reduceEqDiff, Int.reduceLT, Int.reduceBEq, Int.reduceBNe, Nat.reduceBEq, List.append_nil, Int.toNat_zero, Nat.sub_self, frS, ptr]
  (refine hk _ ?_; clear hk k; try show Sat _ _ _ _ _)
  have px : 0 < dx := by obtain ⟨_, _, _, _, _, _, h, _⟩ := hx; exact h
  have py : 0 < dy := by obtain ⟨_, _, _, _, _, _, h, _⟩ := hy; exact h
  have pz : 0 < dz := by obtain ⟨_, _, _, _, _, _, h, _⟩ := hz0; exact h
  have e2 : c2 = -c1 := by rw [hc1, hc2]; exact sgI_neg (by simp only [Int.neg_mul]; omega)
  have e5 : c5 = c1 := by
    rw [hc1, hc5]
    refine sgI_mul (x := 1) (y := dz * dz) (by decide) (Nat.mul_pos pz pz) ?_
    simp only [Int.natCast_one, Int.mul_one, Int.natCast_mul, Int.add_mul, Int.mul_add, Int.neg_mul, Int.mul_neg, Int.mul_comm, Int.mul_left_comm, Int.mul_assoc] <;> omega
  have e6 := frR_neg hd
  have e7 := frV_zero hd.v
  subst e2
  replace e5 := e5.symm
  subst e5
  clear hc2 hc5
  have e8 : (c1 = -1 ∧ gnd = true ∧ ((gld : Int) == 0) = false) ∨ (c1 = 0 ∧ gnd = false ∧ ((gld : Int) == 0) = true) ∨ (c1 = 1 ∧ gnd = false ∧ ((gld : Int) == 0) = false) := by
    have e7' := SV.b.inj (Option.some.inj e7)
    rw [e6, e7', hc1]
    rcases sgI_cases (X * dy + -Y * dx) with ⟨h1, h2⟩ | ⟨h1, h2⟩ | ⟨h1, h2⟩
    · exact .inl ⟨h2, decide_eq_true h1, decide_eq_false (by omega)⟩
    · exact .inr (.inl ⟨h2, decide_eq_false (by omega), decide_eq_true h1⟩)
    · exact .inr (.inr ⟨h2, decide_eq_false (by omega), decide_eq_false (by omega)⟩)
  have e9 : c1 = 1 ∨ c3 = 1 ∨ c4 = -1 ∨ c4 = 0 := by
    rcases sgI_cases (X * dy + -Y * dx) with ⟨h1, h2⟩ | ⟨h1, h2⟩ | ⟨h1, h2⟩
    case inr.inr => exact .inl (hc1.trans h2)
    all_goals
      rcases sgI_cases (Y * dz + -Z * dy) with ⟨h3, h4⟩ | ⟨h3, h4⟩ | ⟨h3, h4⟩
      case inr.inr => exact .inr (.inl (hc3.trans h4))
      all_goals
        have h5 := frac_trans (X := X) (Y := Y) (Z := Z) px py pz (by omega) (by omega)
        rcases sgI_cases (X * dz + -Z * dx) with ⟨h6, h7⟩ | ⟨h6, h7⟩ | ⟨h6, h7⟩
        · exact .inr (.inr (.inl (hc4.trans h7)))
        · exact .inr (.inr (.inr (hc4.trans h7)))
        · omega
  have e10 : c3 = -1 ∨ c3 = 0 ∨ c3 = 1 := by
    rcases sgI_cases (Y * dz + -Z * dy) with ⟨h3, h4⟩ | ⟨h3, h4⟩ | ⟨h3, h4⟩
    · exact .inl (hc3.trans h4)
    · exact .inr (.inl (hc3.trans h4))
    · exact .inr (.inr (hc3.trans h4))
  clear e6 e7 hc1 hc3 hc4
  have w1 : IntKind.i64.wrap (0 - -1) = 1 := rfl
  have w2 : IntKind.i64.wrap (0 - - -1) = -1 := rfl
  have w3 : IntKind.i64.wrap (0 - -0) = 0 := rfl
  have w4 : IntKind.i64.wrap (0 - 1) = -1 := rfl
  (repeat refine Sat.seq ?_)
  refine Sat.region_k fun k hk => ?_
  rcases e8 with ⟨rfl, rfl, e8⟩ | ⟨rfl, rfl, e8⟩ | ⟨rfl, rfl, e8⟩
  case inr.inr =>
    simp only [e8, w1, w2, w3, w4, decide_false, decide_true, beq_self_eq_true, beq_true, beq_false, Bool.not_false, Bool.not_true, Int.reduceLE, Int.reduceNeg, forall_const, and_self, evr, id, reduceCtorEq, reduceIte, Nat.reduceMul, Nat.reduceAdd, Nat.reduceLT, Nat.reduceLeDiff, Nat.reduceEqDiff, Int.reduceLT, Int.reduceBEq, Int.reduceBNe, Nat.reduceBEq, List.append_nil, Int.toNat_zero, Nat.sub_self, frS, ptr]
    refine hk _ ?_
    clear hk
    refine Sat.ret ?_
    simp only [Tryd.results4, evr, id, reduceCtorEq, reduceIte, Nat.reduceMul, Nat.reduceAdd, Nat.reduceLT, Nat.reduceLeDiff, Nat.reduceEqDiff, Int.reduceLT, Int.reduceBEq, Int.reduceBNe, Nat.reduceBEq, List.append_nil, Int.toNat_zero, Nat.sub_self, frS, ptr]
  all_goals
    rcases e10 with rfl | rfl | rfl
    case inr.inr =>
      simp only [e8, w1, w2, w3, w4, decide_false, decide_true, beq_self_eq_true, beq_true, beq_false, Bool.not_false, Bool.not_true, Int.reduceLE, Int.reduceNeg, forall_const, and_self, evr, id, reduceCtorEq, reduceIte, Nat.reduceMul, Nat.reduceAdd, Nat.reduceLT, Nat.reduceLeDiff, Nat.reduceEqDiff, Int.reduceLT, Int.reduceBEq, Int.reduceBNe, Nat.reduceBEq, List.append_nil, Int.toNat_zero, Nat.sub_self, frS, ptr]
      refine hk _ ?_
      clear hk
      refine Sat.ret ?_
      simp only [Tryd.results4, evr, id, reduceCtorEq, reduceIte, Nat.reduceMul, Nat.reduceAdd, Nat.reduceLT, Nat.reduceLeDiff, Nat.reduceEqDiff, Int.reduceLT, Int.reduceBEq, Int.reduceBNe, Nat.reduceBEq, List.append_nil, Int.toNat_zero, Nat.sub_self, frS, ptr]
    all_goals
      rcases e9 with h | h | rfl | rfl
      · exact absurd h (by decide)
      · exact absurd h (by decide)
      all_goals
        simp only [e8, w1, w2, w3, w4, decide_false, decide_true, beq_self_eq_true, beq_true, beq_false, Bool.not_false, Bool.not_true, Int.reduceLE, Int.reduceNeg, forall_const, and_self, evr, id, reduceCtorEq, reduceIte, Nat.reduceMul, Nat.reduceAdd, Nat.reduceLT, Nat.reduceLeDiff, Nat.reduceEqDiff, Int.reduceLT, Int.reduceBEq, Int.reduceBNe, Nat.reduceBEq, List.append_nil, Int.toNat_zero, Nat.sub_self, frS, ptr]
        refine hk _ ?_
        clear hk
        refine Sat.ret ?_
        simp only [Tryd.results4, evr, id, reduceCtorEq, reduceIte, Nat.reduceMul, Nat.reduceAdd, Nat.reduceLT, Nat.reduceLeDiff, Nat.reduceEqDiff, Int.reduceLT, Int.reduceBEq, Int.reduceBNe, Nat.reduceBEq, List.append_nil, Int.toNat_zero, Nat.sub_self, frS, ptr]
theorem order_holds : Rows.FractionOrderCardSaid := fractionOrder.card_of_walk fun a0 z0 w hL ⟨h, hz⟩ => by
  obtain ⟨a, cap, rfl, hok⟩ := slB_of h
  exact walk_of (orderC a cap z0 hz) (fun s hs => by rw [List.mem_singleton.1 hs]; exact hok)
end Go.Proofs.YtjaplngagbiimaaDoor
