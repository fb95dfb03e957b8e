import Derived.Test.YtepbdjpcoleegaaDiceE
import Derived.Test.YtepbdjpcoleegaaPoE
import Derived.Test.YtepbdjpcoleegaaR24E
import Derived.Test.YtepbdjpcoleegaaOraA
import Derived.Test.YtepbdjpcoleegaaPk3

/- dice.Shuffled, by the evaluator: exactly the elements of the list. -/
set_option linter.unusedSimpArgs false
set_option linter.unusedVariables false
namespace Go.Proofs.Ytepbdjpcoleegaa
open Go.Sort Eng
set_option maxHeartbeats 1000000 in
set_option maxRecDepth 100000 in
theorem shuffledC (cb : Nat) (ad : Option Addr) (cap : Nat) (xs : List Res) (hl : xs.length ≤ 1000) :
  ContractN (Frm.codes cb) Try.prog 15 [ptr cb, .sl ad xs.length cap 17 (resRd xs.toArray)] (fun o => ∃ (a : Option Addr) (c : Nat) (ys : List Res), (∀ r, r ∈ ys ↔ r ∈ xs) ∧ ys.length ≤ 2 * xs.length ∧ o = resRow a ys.length c ys.toArray) := by
 refine contractN_of Try.func15 rfl (by kernel_rfl) ?_
 simp only [Try.ntmps15, argEnv, ptr]
 (repeat refine Sat.seq ?_)
 (refine Sat.region_k fun k hk => ?_; simp -implicitDefEqProofs only [evr, id, seval, ptr, res_one, res_ro, resRow, evn]; refine hk _ ?_; clear hk k; try show Sat _ _ _ _ _)
 (repeat refine Sat.seq ?_)
 (refine Sat.region_k fun k hk => ?_; simp -implicitDefEqProofs only [evr, id, seval, ptr, res_one, res_ro, resRow, evn]; refine hk _ ?_; clear hk k; try show Sat _ _ _ _ _)
 refine Sat.adopt 5 44 17 (resRd #[]) rfl ?_
 (repeat refine Sat.seq ?_)
 (refine Sat.region_k fun k hk => ?_; simp -implicitDefEqProofs only [evr, id, seval, ptr, res_one, res_ro, resRow, evn]; refine hk _ ?_; clear hk k; try show Sat _ _ _ _ _)
 refine Sat.block ?_
 refine Sat.loop (ι := Nat × Option Addr × Nat × List Res) (fun z => ⟨48, [(6, .i .i64 z.1), (5, .os 0 z.2.1 z.2.2.2.length z.2.2.1), (0, ptr cb), (1, .sl ad xs.length cap 17 (resRd xs.toArray))], [resRow z.2.1 z.2.2.2.length z.2.2.1 z.2.2.2.toArray]⟩)
  (fun z => z.1 ≤ xs.length ∧ (∀ r, r ∈ z.2.2.2 ↔ r ∈ xs.take z.1) ∧ z.2.2.2.length ≤ 2 * z.1) (fun z => xs.length - z.1) (0, none, 0, []) ⟨Nat.zero_le _, fun r => (by simp), Nat.zero_le _⟩ (by simp -implicitDefEqProofs only [evr, id, seval, ptr, res_one, res_ro, resRow, evl, evn]; first | exact ⟨rfl, rfl⟩ | rfl | trace_state) ?_
 rintro ⟨i, a, c, ys⟩ ⟨hi, hmem, hlen⟩
 simp only [resRow] at hi hmem hlen ⊢
 (repeat refine Sat.seq ?_)
 (refine Sat.region_k fun k hk => ?_; simp -implicitDefEqProofs only [evr, id, seval, ptr, res_one, res_ro, resRow, evn]; refine hk _ ?_; clear hk k; try show Sat _ _ _ _ _)
 (repeat refine Sat.seq ?_)
 refine Sat.cond_b rfl (fun h => ?_) (fun h => ?_)
 ·have h1 : i < xs.length := by simp only [decide_eq_true_eq] at h; omega
  have e2 : IntKind.i64.wrap ((i : Int) + 1) = ((i + 1 : Nat) : Int) := by rw [w64 (by omega)]; omega
  have e4 : IntKind.i64.wrap ((ys.length : Int) + 1) = ((ys.length + 1 : Nat) : Int) := by rw [w64 (by omega)]; omega
  obtain ⟨r, hr⟩ : ∃ r, xs.toArray[i]! = r := ⟨_, rfl⟩
  have htk : xs.take (i + 1) = xs.take i ++ [r] := by rw [List.take_add_one, List.getElem?_eq_getElem h1, ← hr, getB h1]; rfl
  refine Sat.skip ?_
  simp only [thenK]
  (repeat refine Sat.seq ?_)
  refine Sat.block ?_
  (repeat refine Sat.seq ?_)
  refine Sat.region_k fun k hk => ?_
  simp -implicitDefEqProofs only [evr, id, seval, ptr, res_one, res_ro, resRow, e4, evn]
  refine wcall_plain (nextC cb ((ys.length + 1 : Nat) : Int) (by omega) (by omega)) rfl (by rintro _ ⟨x, rfl, _⟩; exact ok_plain rfl) ?_
  rintro _ ⟨x, rfl, hx0, hx1⟩
  obtain ⟨k0, rfl⟩ := Int.eq_ofNat_of_zero_le hx0
  have hk0 : k0 ≤ ys.length := by omega
  have e6 : IntKind.i64.wrap ((k0 : Int) + 1) = ((k0 + 1 : Nat) : Int) := by rw [w64 (by omega)]; omega
  simp -implicitDefEqProofs only [evr, id, seval, ptr, res_one, res_ro, resRow, evn]
  refine hk _ ?_
  clear hk k
  try show Sat _ _ _ _ _
  (repeat refine Sat.seq ?_)
  (refine Sat.region_k fun k hk => ?_; simp -implicitDefEqProofs only [evr, id, seval, ptr, res_one, res_ro, resRow, evn])
  intro b3
  refine ⟨⟨by unfold maxLen; omega, by omega⟩, fun a2 cap2 => ?_⟩
  (refine hk _ ?_; clear hk k; try show Sat _ _ _ _ _)
  refine Sat.know_row 0 rfl fun hcap => ?_
  (repeat refine Sat.seq ?_)
  refine Sat.at ⟨48, [(7, .i .i64 k0), (6, .i .i64 i), (0, ptr cb), (1, .sl ad xs.length cap 17 (resRd xs.toArray)), (5, .os 0 a2 (ys.length + 1) cap2)],
   [.row a2 44 (ys.length + 1) cap2 17 (rdMove (k0 + 1) k0 (ys.length - k0) (rdCat ys.length (resRd ys.toArray) (rdL (Res.cs default) 17)))]⟩ ?_ ?_
  ·(refine Sat.region_tree (.keep [0, 1, 2, 4, 5] [] (.alt 3 (.one 6 (.one 7 .done)) (.alt 6 (.one 3 (.one 7 .done)) .none))) (by kernel_rfl) (by kernel_rfl) (fun _ _ h => h) fun k hk => ?_; simp only [WOT, List.map_cons, List.map_nil, List.getD_cons_zero, List.getD_cons_succ]; simp -implicitDefEqProofs only [evr, id, seval, ptr, res_one, res_ro, resRow, WOT, evn])
   simp -implicitDefEqProofs only [evr, id, reduceCtorEq, reduceIte, Nat.reduceMul, Nat.reduceAdd, Nat.reduceLT, Nat.reduceLeDiff, Nat.reduceEqDiff, Int.reduceLT, Int.reduceBEq, Int.reduceBNe, Nat.reduceBEq, ptr, res_one, res_ro, Int.reduceToNat, resRow, e6, evn]
   repeat' (with_reducible refine And.intro ?_ ?_)
   all_goals first | omega | skip
   all_goals
    refine hk _ ?_
    simp only [thenK, show min (ys.length + 1 - k0) (ys.length + 1 - (k0 + 1)) = ys.length - k0 by omega, ← hr]
    simp -implicitDefEqProofs only [evr, id, reduceCtorEq, reduceIte, Nat.reduceMul, Nat.reduceAdd, Nat.reduceLT, Nat.reduceLeDiff, Nat.reduceEqDiff, Int.reduceLT, Int.reduceBEq, Int.reduceBNe, Nat.reduceBEq, ptr, res_one, res_ro, Int.reduceToNat, resRow, evl, evn]
    exact fun _ _ _ _ => rfl
  simp only [thenK]
  (repeat refine Sat.seq ?_)
  (refine Sat.region_k fun k hk => ?_; simp -implicitDefEqProofs only [evr, id, seval, ptr, res_one, res_ro, resRow, evn])
  refine ⟨by omega, by omega, by omega, ?_⟩
  (refine hk _ ?_; clear hk k; try show Sat _ _ _ _ _)
  have hil := insL_len (ys := ys) (r := r) hk0
  refine Sat.le (st' := ⟨48, [(6, .i .i64 i), (0, ptr cb), (1, .sl ad xs.length cap 17 (resRd xs.toArray)), (5, .os 0 a2 (insL ys k0 r).length cap2)], [resRow a2 (insL ys k0 r).length cap2 (insL ys k0 r).toArray]⟩) ?_ ?_
  ·have hmem2 : ∀ x, x ∈ insL ys k0 r ↔ x ∈ xs.take (i + 1) := fun x => by
    rw [insL_mem, htk, List.mem_append, List.mem_singleton, hmem x]
   have hlen2 : (insL ys k0 r).length ≤ 2 * i + 1 := by omega
   generalize insL ys k0 r = zs at hmem2 hlen2
   clear hil
   simp only [resRow]
   (repeat refine Sat.seq ?_)
   (refine Sat.region_k fun k hk => ?_; simp -implicitDefEqProofs only [evr, id, seval, ptr, res_one, res_ro, resRow, evn])
   refine wcall_plain (boolC cb 8 (by decide) (by decide)) rfl plain_bool ?_
   rintro _ ⟨b, rfl⟩
   simp -implicitDefEqProofs only [evr, id, seval, ptr, res_one, res_ro, resRow, evn]
   (refine hk _ ?_; clear hk k; try show Sat _ _ _ _ _)
   refine Sat.cond_b rfl (fun h3 => ?_) (fun h3 => ?_)
   ·(repeat refine Sat.seq ?_)
    (refine Sat.region_k fun k hk => ?_; simp -implicitDefEqProofs only [evr, id, seval, ptr, res_one, res_ro, resRow, evn])
    refine ⟨by omega, fun b4 => ⟨⟨by unfold maxLen; omega, by omega⟩, fun a5 cap5 => ?_⟩⟩
    refine hk _ ?_
    clear hk k
    simp only [thenK, blockK, reduceIte]
    (repeat refine Sat.seq ?_)
    refine Sat.region_k fun k hk => ?_
    simp -implicitDefEqProofs only [evr, id, seval, ptr, res_one, res_ro, resRow, e2, evn]
    refine hk _ ?_
    simp only [thenK, blockK]
    have hl3 : (zs ++ [r]).length = zs.length + 1 := by simp
    refine ⟨(i + 1, a5, cap5, zs ++ [r]), ⟨by simp only; omega, fun x => ?_, by simp only; omega⟩, by simp only; omega, ?_⟩
    ·show x ∈ zs ++ [r] ↔ x ∈ xs.take (i + 1)
     rw [List.mem_append, List.mem_singleton, hmem2 x, htk, List.mem_append, List.mem_singleton]
     exact ⟨fun h => h.elim id .inr, .inl⟩
    simp only [hl3]
    simp -implicitDefEqProofs only [evr, id, seval, ptr, res_one, res_ro, resRow, evl, evn]
    subst hr
    exact res_app rfl
   ·refine Sat.skip ?_
    simp only [thenK, blockK, reduceIte]
    (repeat refine Sat.seq ?_)
    refine Sat.region_k fun k hk => ?_
    simp -implicitDefEqProofs only [evr, id, seval, ptr, res_one, res_ro, resRow, e2, evn]
    refine hk _ ?_
    simp only [thenK, blockK]
    refine ⟨(i + 1, a2, cap2, zs), ⟨by simp only; omega, hmem2, by simp only; omega⟩, by simp only; omega, ?_⟩
    simp -implicitDefEqProofs only [evr, id, seval, ptr, res_one, res_ro, resRow, evl, evn]
  ·simp only [hil, resRow]
   simp -implicitDefEqProofs only [evr, id, seval, ptr, res_one, res_ro, resRow, evl, evn]
   subst hr
   exact ins_rd Res.cs 17 (fun _ => rfl) hk0 rfl
 ·have h1 : i = xs.length := by simp only [decide_eq_false_iff_not] at h; omega
  subst h1
  refine Sat.exit ?_
  simp only [thenK, blockK, reduceIte]
  (repeat refine Sat.seq ?_)
  (refine Sat.region_k fun k hk => ?_; simp -implicitDefEqProofs only [evr, id, seval, ptr, res_one, res_ro, resRow, evn]; refine hk _ ?_; clear hk k; try show Sat _ _ _ _ _)
  refine Sat.ret ?_
  simp only [Try.results15, evr, id, reduceCtorEq, reduceIte, Nat.reduceMul, Nat.reduceAdd, Nat.reduceLT, Nat.reduceLeDiff, Nat.reduceEqDiff, Int.reduceLT, Int.reduceBEq, Int.reduceBNe, Nat.reduceBEq, ptr, res_one, res_ro, List.append_nil, Int.toNat_zero, Nat.sub_self, Int.reduceToNat, resRow, retN, retNK, newRow]
  rw [List.take_length] at hmem
  exact ⟨⟨rfl, rfl, rfl⟩, a, c, ys, hmem, hlen, rfl⟩
end Go.Proofs.Ytepbdjpcoleegaa
