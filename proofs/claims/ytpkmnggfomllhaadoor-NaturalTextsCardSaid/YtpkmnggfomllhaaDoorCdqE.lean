/- Choices of numbers: Codes.Natural: what it gives. -/
import Derived.Test.YtpkmnggfomllhaaDoorNatQ
import Derived.Test.YtpkmnggfomllhaaDoorCodesR
import Derived.Test.YtpkmnggfomllhaaDoorEngS
import Derived.Test.YtpkmnggfomllhaaDoorDrwB
set_option linter.unusedSimpArgs false
set_option linter.unusedVariables false
namespace Go.Proofs.YtpkmnggfomllhaaDoor
open Eng Lmb Go.RowKit
theorem limb_choice (u v : Int) (hu : 0 ≤ u) (hv : 0 ≤ v) : ∀ y : Nat, y < 5 → ∃ x : Int, rdL [SV.i .i64 0, SV.i .i64 1, SV.i .i64 1073741823, SV.i .i64 u, SV.i .i64 v] 1 y 0 = .i .i64 x ∧ 0 ≤ x := by
  intro y hy
  rcases (show y = 0 ∨ y = 1 ∨ y = 2 ∨ y = 3 ∨ y = 4 by omega) with rfl | rfl | rfl | rfl | rfl
  · exact ⟨0, rfl, by decide⟩
  · exact ⟨1, rfl, by decide⟩
  · exact ⟨1073741823, rfl, by decide⟩
  · exact ⟨u, rfl, hu⟩
  · exact ⟨v, rfl, hv⟩
def NatPost (n : Nat) (r : SV) : Prop := ∃ m, Nats r m ∧ (m : Int) < pw n
set_option maxRecDepth 100000 in
theorem naturalC (cb : Nat) (n : Nat) (hn : n ≤ 100) : Contract (Frm.codes cb) Tryd.prog 6 [ptr cb, .i .i64 n] (NatPost n) := by
  refine contract_of Tryd.func6 rfl (by kernel_rfl) ?_
  simp only [Tryd.ntmps6, argEnv]
  have e1 : IntKind.i64.wrap ((n : Int) + 1) = ((n + 1 : Nat) : Int) := by rw [w64 (by omega)]; omega
  (repeat refine Sat.seq ?_)
  (refine Sat.region_k fun k hk => ?_; simp -implicitDefEqProofs only [evr, id, reduceCtorEq, reduceIte, Nat.reduceMul, Nat.reduceAdd, Nat.reduceLT, Nat.reduceLeDiff, Nat.reduceEqDiff, Int.reduceLT, Int.reduceBEq, Int.reduceBNe, Nat.reduceBEq, ptr, evn]; refine hk _ ?_; clear hk k; try show Sat _ _ _ _ _)
  (repeat refine Sat.seq ?_)
  (refine Sat.region_k fun k hk => ?_; simp -implicitDefEqProofs only [evr, id, reduceCtorEq, reduceIte, Nat.reduceMul, Nat.reduceAdd, Nat.reduceLT, Nat.reduceLeDiff, Nat.reduceEqDiff, Int.reduceLT, Int.reduceBEq, Int.reduceBNe, Nat.reduceBEq, ptr, evn]; refine hk _ ?_; clear hk k; try show Sat _ _ _ _ _)
  (repeat refine Sat.seq ?_)
  refine Sat.region_k fun k hk => ?_
  simp -implicitDefEqProofs only [evr, id, reduceCtorEq, reduceIte, Nat.reduceMul, Nat.reduceAdd, Nat.reduceLT, Nat.reduceLeDiff, Nat.reduceEqDiff, Int.reduceLT, Int.reduceBEq, Int.reduceBNe, Nat.reduceBEq, ptr, e1, evn]
  refine wcall_plain (nextC cb ((n + 1 : Nat) : Int) (by omega) (by omega)) rfl (by rintro _ ⟨x, rfl, _⟩; exact ok_plain rfl) ?_
  rintro r ⟨x, rfl, hx0, hx1⟩
  obtain ⟨t, rfl⟩ := Int.eq_ofNat_of_zero_le hx0
  have ht : t ≤ n := by omega
  simp -implicitDefEqProofs only [evr, id, reduceCtorEq, reduceIte, Nat.reduceMul, Nat.reduceAdd, Nat.reduceLT, Nat.reduceLeDiff, Nat.reduceEqDiff, Int.reduceLT, Int.reduceBEq, Int.reduceBNe, Nat.reduceBEq, ptr, evn]
  (refine hk _ ?_; clear hk k; try show Sat _ _ _ _ _)
  (repeat refine Sat.seq ?_)
  refine Sat.block ?_
  refine Sat.adopt 5 3 1 (fun p _ => .i .i64 (([] : List Int).getD p 0)) rfl ?_
  refine Sat.loop (ι := Nat × List Int × Option Addr × Nat) (fun x => ⟨34, [(6, .i .i64 (x.1 : Int)), (5, .os 0 x.2.2.1 x.2.1.length x.2.2.2), (0, ptr cb)], [.row x.2.2.1 3 x.2.1.length x.2.2.2 1 (fun p _ => .i .i64 (x.2.1.getD p 0))]⟩)
    (fun x => Limbs x.2.1 ∧ x.1 + x.2.1.length ≤ n) (fun x => x.1) (t, [], none, 0) ⟨limbs_nil, by simpa using ht⟩ (by simp -implicitDefEqProofs only [evr, id, reduceCtorEq, reduceIte, Nat.reduceMul, Nat.reduceAdd, Nat.reduceLT, Nat.reduceLeDiff, Nat.reduceEqDiff, Int.reduceLT, Int.reduceBEq, Int.reduceBNe, Nat.reduceBEq, ptr, evl, evn]; try rfl) ?_
  rintro ⟨q, xs, a, c⟩ ⟨hlim, hlen⟩
  simp only at hlim hlen ⊢
  (repeat refine Sat.seq ?_)
  (refine Sat.region_k fun k hk => ?_; simp -implicitDefEqProofs only [evr, id, reduceCtorEq, reduceIte, Nat.reduceMul, Nat.reduceAdd, Nat.reduceLT, Nat.reduceLeDiff, Nat.reduceEqDiff, Int.reduceLT, Int.reduceBEq, Int.reduceBNe, Nat.reduceBEq, ptr, evn]; refine hk _ ?_; clear hk k; try show Sat _ _ _ _ _)
  (repeat refine Sat.seq ?_)
  refine Sat.cond_b rfl (fun h => ?_) (fun h => ?_)
  · have hq : 0 < q := by have := of_decide_eq_true h; omega
    have eq1 : IntKind.i64.wrap ((q : Int) - 1) = ((q - 1 : Nat) : Int) := by rw [w64 (by omega)]; omega
    refine Sat.skip ?_
    simp only [thenK]
    (repeat refine Sat.seq ?_)
    refine Sat.block ?_
    (repeat refine Sat.seq ?_)
    (refine Sat.region_k fun k hk => ?_; simp -implicitDefEqProofs only [evr, id, reduceCtorEq, reduceIte, Nat.reduceMul, Nat.reduceAdd, Nat.reduceLT, Nat.reduceLeDiff, Nat.reduceEqDiff, Int.reduceLT, Int.reduceBEq, Int.reduceBNe, Nat.reduceBEq, ptr, evn])
    refine wcall_plain (nextC cb 256 (by decide) (by decide)) rfl (by rintro _ ⟨x, rfl, _⟩; exact ok_plain rfl) ?_
    rintro r ⟨u, rfl, hu0, hu1⟩
    simp -implicitDefEqProofs only [evr, id, reduceCtorEq, reduceIte, Nat.reduceMul, Nat.reduceAdd, Nat.reduceLT, Nat.reduceLeDiff, Nat.reduceEqDiff, Int.reduceLT, Int.reduceBEq, Int.reduceBNe, Nat.reduceBEq, ptr, evn]
    refine wcall_plain (nextC cb 65536 (by decide) (by decide)) rfl (by rintro _ ⟨x, rfl, _⟩; exact ok_plain rfl) ?_
    rintro r ⟨v, rfl, hv0, hv1⟩
    simp -implicitDefEqProofs only [evr, id, reduceCtorEq, reduceIte, Nat.reduceMul, Nat.reduceAdd, Nat.reduceLT, Nat.reduceLeDiff, Nat.reduceEqDiff, Int.reduceLT, Int.reduceBEq, Int.reduceBNe, Nat.reduceBEq, ptr, evn]
    refine wcall_plain (nextC cb 16000 (by decide) (by decide)) rfl (by rintro _ ⟨x, rfl, _⟩; exact ok_plain rfl) ?_
    rintro r ⟨w, rfl, hw0, hw1⟩
    have e2 : IntKind.i64.wrap (1 + w) = 1 + w := w64 (by omega)
    have hvw : 0 ≤ v * (1 + w) := Int.mul_nonneg hv0 (by omega)
    have hvw2 : v * (1 + w) ≤ 65536 * 16001 := Int.mul_le_mul (by omega) (by omega) (by omega) (by omega)
    have e3 : IntKind.i64.wrap (v * (1 + w)) = v * (1 + w) := w64 (by omega)
    simp -implicitDefEqProofs only [evr, id, reduceCtorEq, reduceIte, Nat.reduceMul, Nat.reduceAdd, Nat.reduceLT, Nat.reduceLeDiff, Nat.reduceEqDiff, Int.reduceLT, Int.reduceBEq, Int.reduceBNe, Nat.reduceBEq, ptr, e2, e3, evn]
    intro blk
    refine wcall_plain (nextC cb 5 (by decide) (by decide)) rfl (by rintro _ ⟨x, rfl, _⟩; exact ok_plain rfl) ?_
    rintro r ⟨y0, rfl, hy0, hy1⟩
    obtain ⟨y, rfl⟩ := Int.eq_ofNat_of_zero_le hy0
    obtain ⟨xl, hxl, hxl0⟩ := limb_choice u (v * (1 + w)) hu0 hvw y (by omega)
    have em : xl.tmod 1073741824 = xl % 1073741824 := Int.tmod_eq_emod_of_nonneg hxl0
    simp -implicitDefEqProofs only [evr, id, reduceCtorEq, reduceIte, Nat.reduceMul, Nat.reduceAdd, Nat.reduceLT, Nat.reduceLeDiff, Nat.reduceEqDiff, Int.reduceLT, Int.reduceBEq, Int.reduceBNe, Nat.reduceBEq, ptr, evn]
    refine ⟨by omega, by omega, ?_⟩
    rw [hxl]
    simp -implicitDefEqProofs only [evr, id, reduceCtorEq, reduceIte, Nat.reduceMul, Nat.reduceAdd, Nat.reduceLT, Nat.reduceLeDiff, Nat.reduceEqDiff, Int.reduceLT, Int.reduceBEq, Int.reduceBNe, Nat.reduceBEq, ptr, em, evn]
    refine ⟨by decide, fun blk2 => ?_⟩
    refine ⟨⟨by unfold maxLen; omega, by omega⟩, fun a2 cap2 => ?_⟩
    refine hk _ ?_
    clear hk k
    simp only [thenK, blockK]
    (repeat refine Sat.seq ?_)
    refine Sat.region_k fun k hk => ?_
    simp -implicitDefEqProofs only [evr, id, reduceCtorEq, reduceIte, Nat.reduceMul, Nat.reduceAdd, Nat.reduceLT, Nat.reduceLeDiff, Nat.reduceEqDiff, Int.reduceLT, Int.reduceBEq, Int.reduceBNe, Nat.reduceBEq, ptr, eq1, evn]
    refine hk _ ?_
    simp only [thenK, blockK]
    refine ⟨(q - 1, xs ++ [xl % 1073741824], a2, cap2), ⟨limbs_append.2 ⟨hlim, limbs_cons.2 ⟨by omega, limbs_nil⟩⟩, by simp; omega⟩, by show q - 1 < q; omega, ?_⟩
    simp -implicitDefEqProofs only [evr, id, reduceCtorEq, reduceIte, Nat.reduceMul, Nat.reduceAdd, Nat.reduceLT, Nat.reduceLeDiff, Nat.reduceEqDiff, Int.reduceLT, Int.reduceBEq, Int.reduceBNe, Nat.reduceBEq, ptr, evl, evn]
    simp only [List.length_append, List.length_cons, List.length_nil]
    exact ⟨trivial, trivial, rd_snoc rfl rfl⟩
  · have hq : q = 0 := by have := of_decide_eq_false h; omega
    subst hq
    refine Sat.exit ?_
    simp only [thenK, blockK, reduceIte]
    (repeat refine Sat.seq ?_)
    (refine Sat.region_k fun k hk => ?_; simp -implicitDefEqProofs only [evr, id, reduceCtorEq, reduceIte, Nat.reduceMul, Nat.reduceAdd, Nat.reduceLT, Nat.reduceLeDiff, Nat.reduceEqDiff, Int.reduceLT, Int.reduceBEq, Int.reduceBNe, Nat.reduceBEq, ptr, evn])
    refine wcall_slice (refTrimC (Frm.codes cb) (s := .sl a xs.length c 1 (fun p _ => .i .i64 (xs.getD p 0))) ⟨a, c, 1, _, rfl, .inr rfl, fun p _ => rfl⟩ hlim) (by simp -implicitDefEqProofs only [evr, id, reduceCtorEq, reduceIte, Nat.reduceMul, Nat.reduceAdd, Nat.reduceLT, Nat.reduceLeDiff, Nat.reduceEqDiff, Int.reduceLT, Int.reduceBEq, Int.reduceBNe, Nat.reduceBEq, ptr, evn]; try rfl) (by simp -implicitDefEqProofs only [evr, id, reduceCtorEq, reduceIte, Nat.reduceMul, Nat.reduceAdd, Nat.reduceLT, Nat.reduceLeDiff, Nat.reduceEqDiff, Int.reduceLT, Int.reduceBEq, Int.reduceBNe, Nat.reduceBEq, ptr, evn]; try rfl) ?_
    intro z hz
    have hz1 := hz
    obtain ⟨a8, c8, z8, r8, x8, rfl, _⟩ := hz
    simp -implicitDefEqProofs only [evr, id, reduceCtorEq, reduceIte, Nat.reduceMul, Nat.reduceAdd, Nat.reduceLT, Nat.reduceLeDiff, Nat.reduceEqDiff, Int.reduceLT, Int.reduceBEq, Int.reduceBNe, Nat.reduceBEq, ptr, evn]
    (refine hk _ ?_; clear hk k; try show Sat _ _ _ _ _)
    refine Sat.ret ?_
    simp only [Tryd.results6, evr, id, reduceCtorEq, reduceIte, Nat.reduceMul, Nat.reduceAdd, Nat.reduceLT, Nat.reduceLeDiff, Nat.reduceEqDiff, Int.reduceLT, Int.reduceBEq, Int.reduceBNe, Nat.reduceBEq, List.append_nil, Int.toNat_zero, Nat.sub_self, ptr]
    refine ⟨_, hz1, ?_⟩
    rw [Int.toNat_of_nonneg (val_nonneg hlim)]
    have h1 := val_lt hlim
    have h2 := pw_mono (show xs.length ≤ n by omega)
    omega
end Go.Proofs.YtpkmnggfomllhaaDoor
