import Derived.Test.YtepbdjpcoleegaaGreatCnA
import Derived.Test.YtepbdjpcoleegaaGreatCnM
import Derived.Test.YtepbdjpcoleegaaGreatPk3

/- The reference of law 28, by the evaluator: PutID, At, PutEvidence. -/
set_option linter.unusedSimpArgs false
set_option linter.unusedVariables false
namespace Go.Proofs.YtepbdjpcoleegaaGreat
open Go.Sort Eng
theorem idnAt {ids : List Idn} {i : Nat} (h : i < ids.length) : ids.toArray[i]! = ids.getD i default := by simp [getElem!_def, List.getD, h]
theorem idn_eqR (ids : List Idn) (i : Nat) (x : Idn) : aggEq Tryz.prog 30 3 (fun j => idnRd ids.toArray i j) 3 (fun j => [SV.i .i64 x.van, .i .i64 x.run, .i .i64 x.num].getD j default) = some (decide (ids.toArray[i]! = x)) := id_eq _ _ _ _ _ _
set_option maxHeartbeats 1000000 in
set_option maxRecDepth 100000 in
theorem putIdC (F : Frm) (a : Option Addr) (cap : Nat) (ids : List Idn) (x : Idn) (hl : ids.length ≤ 1000) :
  ContractL F Tryz.prog 48 [.v (.slice a ids.length cap), idnAg x] [.row a 30 ids.length cap 3 (idnRd ids.toArray)]
   (fun r os => ∃ a' c' ids', PutR ids x ids' ∧ r = .os 0 a' ids'.length c' ∧ os = [.row a' 30 ids'.length c' 3 (idnRd ids'.toArray)]) := by
 refine contractL_of Tryz.func48 rfl (by kernel_rfl) ?_
 simp only [Tryz.ntmps48, argEnv, idnAg, Idn.cs]
 refine Sat.redo 0 (.os 0 a ids.length cap) rfl rfl (fun _ _ => trivial) ?_
 (repeat refine Sat.seq ?_)
 (refine Sat.region_k fun k hk => ?_; simp -implicitDefEqProofs only [evr, id, seval, res_one, par_one, idn_one, idn_0, idn_1, idn_2, resRow, res_ro, rExtract_tup, par_eq, evn])
 intro b3
 (refine hk _ ?_; clear hk k; try show Sat _ _ _ _ _)
 (repeat refine Sat.seq ?_)
 (refine Sat.region_k fun k hk => ?_; simp -implicitDefEqProofs only [evr, id, seval, res_one, par_one, idn_one, idn_0, idn_1, idn_2, resRow, res_ro, rExtract_tup, par_eq, evn]; refine hk _ ?_; clear hk k; try show Sat _ _ _ _ _)
 (repeat refine Sat.seq ?_)
 refine Sat.block ?_
 refine Sat.loop (ι := Nat) (fun i => ⟨51, [(5, .i .i64 i), (0, .os 0 a ids.length cap), (3, .op 1 b3 0)], [.row a 30 ids.length cap 3 (idnRd ids.toArray), .box b3 30 [.i .i64 x.van, .i .i64 x.run, .i .i64 x.num]]⟩)
  (fun i => i ≤ ids.length ∧ ∀ q, q < i → idnLt (ids.getD q default) x = true) (fun i => ids.length - i) 0 ⟨Nat.zero_le _, fun q hq => by omega⟩ (by simp -implicitDefEqProofs only [evr, id, seval, res_one, par_one, idn_one, idn_0, idn_1, idn_2, resRow, res_ro, rExtract_tup, par_eq, evl, evn]; try rfl) ?_
 rintro i ⟨hi, hq⟩
 (repeat refine Sat.seq ?_)
 refine Sat.joinK (ι := Bool) (fun q => ⟨51, [(18, .b q), (5, .i .i64 i), (0, .os 0 a ids.length cap), (3, .op 1 b3 0)], [.row a 30 ids.length cap 3 (idnRd ids.toArray), .box b3 30 [.i .i64 x.van, .i .i64 x.run, .i .i64 x.num]]⟩)
  (fun q => q = (decide (i < ids.length) && idnLt (ids.getD i default) x)) (fun hrest => ?_) ?_
 ·(refine Sat.region_qk (by kernel_rfl) (by kernel_rfl) fun k hk => ?_; simp -implicitDefEqProofs only [evr, id, seval, res_one, par_one, idn_one, idn_0, idn_1, idn_2, resRow, res_ro, rExtract_tup, par_eq, evn])
  refine ⟨fun g1 => ?_, fun g1 => ?_⟩
  ·have hlt : i < ids.length := by omega
   refine ⟨by omega, by omega, ?_⟩
   refine qcall (refCompareIdC Frm.nil ids.toArray[i]! x) rfl (ok_plain rfl) ?_
   rw [idnAt hlt]
   simp -implicitDefEqProofs only [evr, id, seval, res_one, par_one, idn_one, idn_0, idn_1, idn_2, resRow, res_ro, rExtract_tup, par_eq, evn]
   refine hk _ ?_
   simp only [thenK]
   refine (hrest (decide (idnCmpI (ids.getD i default) x < 0)) (by rw [decide_eq_true hlt]; rfl)).le ?_
   simp -implicitDefEqProofs only [evr, id, seval, res_one, par_one, idn_one, idn_0, idn_1, idn_2, resRow, res_ro, rExtract_tup, par_eq, evl, evn]
  ·refine hk _ ?_
   simp only [thenK]
   refine (hrest false (by rw [decide_eq_false (by omega)]; rfl)).le ?_
   simp -implicitDefEqProofs only [evr, id, seval, res_one, par_one, idn_one, idn_0, idn_1, idn_2, resRow, res_ro, rExtract_tup, par_eq, evl, evn]
 rintro q rfl
 (repeat refine Sat.seq ?_)
 refine Sat.cond_b rfl (fun h => ?_) (fun h => ?_)
 ·rw [Bool.and_eq_true, decide_eq_true_eq] at h
  obtain ⟨hlt, hx⟩ := h
  have e1 : IntKind.i64.wrap ((i : Int) + 1) = ((i + 1 : Nat) : Int) := by rw [w64 (by omega)]; omega
  refine Sat.skip ?_
  simp only [thenK]
  (repeat refine Sat.seq ?_)
  refine Sat.block ?_
  refine Sat.region_k fun k hk => ?_
  simp -implicitDefEqProofs only [evr, id, seval, res_one, par_one, idn_one, idn_0, idn_1, idn_2, resRow, res_ro, rExtract_tup, par_eq, e1, evn]
  refine hk _ ?_
  simp only [thenK, blockK]
  refine ⟨i + 1, ⟨by omega, fun q hq2 => ?_⟩, by omega, ?_⟩
  ·by_cases e : q < i
   ·exact hq q e
   ·obtain rfl : q = i := by omega
    exact hx
  simp -implicitDefEqProofs only [evr, id, seval, res_one, par_one, idn_one, idn_0, idn_1, idn_2, resRow, res_ro, rExtract_tup, par_eq, evl, evn]
 have hno : i < ids.length → idnLt (ids.getD i default) x = false := fun g1 => by
  rw [decide_eq_true g1, Bool.true_and] at h
  exact h
 refine Sat.exit ?_
 simp only [thenK, blockK, reduceIte]
 (repeat refine Sat.seq ?_)
 refine Sat.joinK (ι := Bool) (fun q => ⟨51, [(32, .b q), (5, .i .i64 i), (0, .os 0 a ids.length cap), (3, .op 1 b3 0)], [.row a 30 ids.length cap 3 (idnRd ids.toArray), .box b3 30 [.i .i64 x.van, .i .i64 x.run, .i .i64 x.num]]⟩)
  (fun q => q = (decide (i < ids.length) && decide (ids.getD i default = x))) (fun hrest => ?_) ?_
 ·(refine Sat.region_qk (by kernel_rfl) (by kernel_rfl) fun k hk => ?_; simp -implicitDefEqProofs only [evr, id, seval, res_one, par_one, idn_one, idn_0, idn_1, idn_2, resRow, res_ro, rExtract_tup, par_eq, evn])
  refine ⟨fun g1 => ?_, fun g1 => ?_⟩
  ·have hlt : i < ids.length := by omega
   simp only [idn_eqR, idnAt hlt, evr, id, seval, res_one, par_one, idn_one, idn_0, idn_1, idn_2, List.append_nil, Int.toNat_zero, Nat.sub_self, Int.reduceToNat, resRow, res_ro, rExtract_tup, par_eq]
   refine ⟨by omega, by omega, ?_⟩
   refine hk _ ?_
   simp only [thenK]
   refine (hrest (decide (ids.getD i default = x)) (by rw [decide_eq_true hlt]; rfl)).le ?_
   simp -implicitDefEqProofs only [evr, id, seval, res_one, par_one, idn_one, idn_0, idn_1, idn_2, resRow, res_ro, rExtract_tup, par_eq, evl, evn]
  ·refine hk _ ?_
   simp only [thenK]
   refine (hrest false (by rw [decide_eq_false (by omega)]; rfl)).le ?_
   simp -implicitDefEqProofs only [evr, id, seval, res_one, par_one, idn_one, idn_0, idn_1, idn_2, resRow, res_ro, rExtract_tup, par_eq, evl, evn]
 rintro q rfl
 (repeat refine Sat.seq ?_)
 refine Sat.cond_b rfl (fun h2 => ?_) (fun h2 => ?_)
 ·rw [Bool.and_eq_true, decide_eq_true_eq, decide_eq_true_eq] at h2
  (repeat refine Sat.seq ?_)
  (refine Sat.region_k fun k hk => ?_; simp -implicitDefEqProofs only [evr, id, seval, res_one, par_one, idn_one, idn_0, idn_1, idn_2, resRow, res_ro, rExtract_tup, par_eq, evn]; refine hk _ ?_; clear hk k; try show Sat _ _ _ _ _)
  refine Sat.ret ?_
  simp only [Tryz.results48, evr, id, seval, res_one, par_one, idn_one, idn_0, idn_1, idn_2, List.append_nil, Int.toNat_zero, Nat.sub_self, Int.reduceToNat, resRow, res_ro, rExtract_tup, par_eq, retL, retLK, resL, lfA, lf]
  exact ⟨[_], [_], rfl, by simp, a, cap, ids, ⟨i, hi, hq, .inl ⟨h2.1, h2.2, rfl⟩⟩, rfl, rfl⟩
 have hgt : i < ids.length → idnLt x (ids.getD i default) = true := fun g1 => by
  rw [decide_eq_true g1, Bool.true_and] at h2
  rcases idnLt_total (ids.getD i default) x with g | g | g
  ·rw [hno g1] at g; cases g
  ·exact absurd g (of_decide_eq_false h2)
  ·exact g
 have e6 : IntKind.i64.wrap ((i : Int) + 1) = ((i + 1 : Nat) : Int) := by rw [w64 (by omega)]; omega
 refine Sat.skip ?_
 simp only [thenK]
 (repeat refine Sat.seq ?_)
 (refine Sat.region_k fun k hk => ?_; simp -implicitDefEqProofs only [evr, id, seval, res_one, par_one, idn_one, idn_0, idn_1, idn_2, resRow, res_ro, rExtract_tup, par_eq, evn])
 intro b6
 refine ⟨⟨by unfold maxLen; omega, by omega⟩, fun a2 cap2 => ?_⟩
 (refine hk _ ?_; clear hk k; try show Sat _ _ _ _ _)
 refine Sat.know_row 0 rfl fun hcap => ?_
 (repeat refine Sat.seq ?_)
 refine Sat.at ⟨51, [(5, .i .i64 i), (0, .os 0 a2 (ids.length + 1) cap2), (3, .op 1 b3 0)],
  [.row a2 30 (ids.length + 1) cap2 3 (rdMove (i + 1) i (ids.length - i) (rdCat ids.length (idnRd ids.toArray) (rdL (Idn.cs x) 3))), .box b3 30 [.i .i64 x.van, .i .i64 x.run, .i .i64 x.num]]⟩ ?_ ?_
 ·(refine Sat.region_tree (.keep [0, 1, 2, 4, 5] [] (.alt 3 (.one 6 (.one 7 .done)) (.alt 6 (.one 3 (.one 7 .done)) .none))) (by kernel_rfl) (by kernel_rfl) (fun _ _ h => h) fun k hk => ?_; simp only [WOT, List.map_cons, List.map_nil, List.getD_cons_zero, List.getD_cons_succ]; simp -implicitDefEqProofs only [evr, id, seval, res_one, par_one, idn_one, idn_0, idn_1, idn_2, resRow, res_ro, rExtract_tup, par_eq, WOT, evn])
  simp -implicitDefEqProofs only [evr, id, seval, res_one, par_one, idn_one, idn_0, idn_1, idn_2, resRow, res_ro, rExtract_tup, par_eq, e6, evn]
  repeat' (with_reducible refine And.intro ?_ ?_)
  all_goals first | omega | skip
  all_goals
   refine hk _ ?_
   simp only [thenK, show min (ids.length + 1 - i) (ids.length + 1 - (i + 1)) = ids.length - i by omega, show min (ids.length + 1 - i) (ids.length - i) = ids.length - i by omega, Idn.cs]
   simp -implicitDefEqProofs only [evr, id, seval, res_one, par_one, idn_one, idn_0, idn_1, idn_2, resRow, res_ro, rExtract_tup, par_eq, evl, evn]
   try exact fun _ _ _ _ => rfl
 simp only [thenK]
 (repeat refine Sat.seq ?_)
 (refine Sat.region_k fun k hk => ?_; simp -implicitDefEqProofs only [evr, id, seval, res_one, par_one, idn_one, idn_0, idn_1, idn_2, resRow, res_ro, rExtract_tup, par_eq, evn])
 refine ⟨by omega, by omega, ?_⟩
 (refine hk _ ?_; clear hk k; try show Sat _ _ _ _ _)
 have hil := insL_len (ys := ids) (r := x) hi
 refine Sat.le (st' := ⟨51, [(0, .os 0 a2 (insL ids i x).length cap2)], [.row a2 30 (insL ids i x).length cap2 3 (idnRd (insL ids i x).toArray)]⟩) ?_ ?_
 ·(repeat refine Sat.seq ?_)
  (refine Sat.region_k fun k hk => ?_; simp -implicitDefEqProofs only [evr, id, seval, res_one, par_one, idn_one, idn_0, idn_1, idn_2, resRow, res_ro, rExtract_tup, par_eq, evn]; refine hk _ ?_; clear hk k; try show Sat _ _ _ _ _)
  refine Sat.ret ?_
  simp only [Tryz.results48, evr, id, seval, res_one, par_one, idn_one, idn_0, idn_1, idn_2, List.append_nil, Int.toNat_zero, Nat.sub_self, Int.reduceToNat, resRow, res_ro, rExtract_tup, par_eq, retL, retLK, resL, lfA, lf]
  exact ⟨[_], [], rfl, by simp, a2, cap2, insL ids i x, ⟨i, hi, hq, .inr ⟨hgt, rfl⟩⟩, rfl, rfl⟩
 ·simp only [hil]
  simp -implicitDefEqProofs only [evr, id, seval, res_one, par_one, idn_one, idn_0, idn_1, idn_2, resRow, res_ro, rExtract_tup, par_eq, evl, evn]
  exact ins_rd Idn.cs 3 (fun _ => rfl) hi rfl
def Evd.csv (e : Evd) : List SV := [.i .i64 e.kind, .i .u32 e.a, .i .u32 e.b, .v (.slice e.ad e.ids.length e.cap)]
def evvRd (es : List Evd) : Nat → Nat → SV := fun i j => (Evd.csv es.toArray[i]!).getD j default
theorem evv_0 (es : List Evd) (i : Nat) : evvRd es i 0 = .i .i64 (es.toArray[i]!).kind := rfl
theorem evv_1 (es : List Evd) (i : Nat) : evvRd es i 1 = .i .u32 (es.toArray[i]!).a := rfl
theorem evv_2 (es : List Evd) (i : Nat) : evvRd es i 2 = .i .u32 (es.toArray[i]!).b := rfl
theorem evv_3 (es : List Evd) (i : Nat) : evvRd es i 3 = .v (.slice (es.toArray[i]!).ad (es.toArray[i]!).ids.length (es.toArray[i]!).cap) := rfl
theorem evvAt {es : List Evd} {i : Nat} (h : i < es.length) : es.toArray[i]! = es.getD i default := by simp [getElem!_def, List.getD, h]
set_option maxRecDepth 100000 in
theorem atC (F : Frm) (a : Option Addr) (cap : Nat) (es : List Evd) (p : Par) (hl : es.length ≤ 1000) :
  Contract F Tryz.prog 47 [.sl a es.length cap 4 (evvRd es), .i .u32 p.a, .i .u32 p.b]
   (fun r => (r = .i .i64 (-1) ∧ ∀ q, q < es.length → (es.getD q default).pr ≠ p) ∨ ∃ i : Nat, i < es.length ∧ (es.getD i default).pr = p ∧ r = .i .i64 i) := by
 refine contract_of Tryz.func47 rfl (by kernel_rfl) ?_
 simp only [Tryz.ntmps47, argEnv]
 (repeat refine Sat.seq ?_)
 (refine Sat.region_k fun k hk => ?_; simp -implicitDefEqProofs only [evr, id, seval, res_one, par_one, idn_one, idn_0, idn_1, idn_2, resRow, res_ro, rExtract_tup, par_eq, evn]; refine hk _ ?_; clear hk k; try show Sat _ _ _ _ _)
 (repeat refine Sat.seq ?_)
 (refine Sat.region_k fun k hk => ?_; simp -implicitDefEqProofs only [evr, id, seval, res_one, par_one, idn_one, idn_0, idn_1, idn_2, resRow, res_ro, rExtract_tup, par_eq, evn]; refine hk _ ?_; clear hk k; try show Sat _ _ _ _ _)
 (repeat refine Sat.seq ?_)
 refine Sat.block ?_
 refine Sat.loop (ι := Nat) (fun i => ⟨31, [(7, .i .i64 i), (0, .sl a es.length cap 4 (evvRd es)), (1, .i .u32 p.a), (2, .i .u32 p.b)], []⟩)
  (fun i => i ≤ es.length ∧ ∀ q, q < i → (es.getD q default).pr ≠ p) (fun i => es.length - i) 0 ⟨Nat.zero_le _, fun q hq => by omega⟩ (by simp -implicitDefEqProofs only [evr, id, seval, res_one, par_one, idn_one, idn_0, idn_1, idn_2, resRow, res_ro, rExtract_tup, par_eq, evl, evn]; try rfl) ?_
 rintro i ⟨hi, hq⟩
 (repeat refine Sat.seq ?_)
 (refine Sat.region_k fun k hk => ?_; simp -implicitDefEqProofs only [evr, id, seval, res_one, par_one, idn_one, idn_0, idn_1, idn_2, resRow, res_ro, rExtract_tup, par_eq, evn]; refine hk _ ?_; clear hk k; try show Sat _ _ _ _ _)
 (repeat refine Sat.seq ?_)
 refine Sat.cond_b rfl (fun h => ?_) (fun h => ?_)
 ·have h1 : i < es.length := by simp only [decide_eq_true_eq] at h; omega
  have e1 : IntKind.i64.wrap ((i : Int) + 1) = ((i + 1 : Nat) : Int) := by rw [w64 (by omega)]; omega
  refine Sat.skip ?_
  simp only [thenK]
  (repeat refine Sat.seq ?_)
  refine Sat.block ?_
  (repeat refine Sat.seq ?_)
  refine Sat.joinK (ι := Bool) (fun q => ⟨31, [(29, .b q), (7, .i .i64 i), (0, .sl a es.length cap 4 (evvRd es)), (1, .i .u32 p.a), (2, .i .u32 p.b)], []⟩)
   (fun q => q = decide ((es.getD i default).pr = p)) (fun hrest => ?_) ?_
  ·(refine Sat.region_k fun k hk => ?_; simp -implicitDefEqProofs only [evr, id, seval, res_one, par_one, idn_one, idn_0, idn_1, idn_2, resRow, res_ro, rExtract_tup, par_eq, evn])
   simp only [evv_1, evv_2, evvAt h1, evr, id, seval, res_one, par_one, idn_one, idn_0, idn_1, idn_2, List.append_nil, Int.toNat_zero, Nat.sub_self, Int.reduceToNat, resRow, res_ro, rExtract_tup, par_eq]
   refine ⟨by omega, fun g1 => ⟨by omega, ?_⟩, fun g1 => ?_⟩
   ·have g2 : (es.getD i default).a = p.a := by simpa using g1
    refine hk _ ?_
    simp only [thenK]
    refine (hrest ((es.getD i default).b == p.b) (by
     by_cases h9 : (es.getD i default).b = p.b
     ·rw [decide_eq_true (show (es.getD i default).pr = p by cases p; unfold Evd.pr; simp only at g2 h9; rw [g2, h9]), h9]; simp
     ·rw [decide_eq_false (fun h8 => h9 (by rw [← h8]; rfl))]; exact beq_eq_false_iff_ne.2 h9)).le ?_
    simp -implicitDefEqProofs only [evr, id, seval, res_one, par_one, idn_one, idn_0, idn_1, idn_2, resRow, res_ro, rExtract_tup, par_eq, evl, evn]
   ·have g2 : (es.getD i default).a ≠ p.a := by simpa using g1
    refine hk _ ?_
    simp only [thenK]
    refine (hrest false (by rw [decide_eq_false (fun h8 => g2 (by rw [← h8]; rfl))])).le ?_
    simp -implicitDefEqProofs only [evr, id, seval, res_one, par_one, idn_one, idn_0, idn_1, idn_2, resRow, res_ro, rExtract_tup, par_eq, evl, evn]
  rintro q rfl
  (repeat refine Sat.seq ?_)
  refine Sat.cond_b rfl (fun h2 => ?_) (fun h2 => ?_)
  ·(repeat refine Sat.seq ?_)
   (refine Sat.region_k fun k hk => ?_; simp -implicitDefEqProofs only [evr, id, seval, res_one, par_one, idn_one, idn_0, idn_1, idn_2, resRow, res_ro, rExtract_tup, par_eq, evn]; refine hk _ ?_; clear hk k; try show Sat _ _ _ _ _)
   refine Sat.ret ?_
   simp only [blockK, Tryz.results47, evr, id, seval, res_one, par_one, idn_one, idn_0, idn_1, idn_2, List.append_nil, Int.toNat_zero, Nat.sub_self, Int.reduceToNat, resRow, res_ro, rExtract_tup, par_eq]
   exact .inr ⟨i, h1, of_decide_eq_true h2, rfl⟩
  refine Sat.skip ?_
  simp only [thenK, blockK, reduceIte]
  refine Sat.region_k fun k hk => ?_
  simp -implicitDefEqProofs only [evr, id, seval, res_one, par_one, idn_one, idn_0, idn_1, idn_2, resRow, res_ro, rExtract_tup, par_eq, e1, evn]
  refine hk _ ?_
  simp only [thenK, blockK]
  refine ⟨i + 1, ⟨by omega, fun q hq2 => ?_⟩, by omega, ?_⟩
  ·by_cases e : q < i
   ·exact hq q e
   ·obtain rfl : q = i := by omega
    exact of_decide_eq_false h2
  simp -implicitDefEqProofs only [evr, id, seval, res_one, par_one, idn_one, idn_0, idn_1, idn_2, resRow, res_ro, rExtract_tup, par_eq, evl, evn]
 have h1 : i = es.length := by simp only [decide_eq_false_iff_not] at h; omega
 subst h1
 refine Sat.exit ?_
 simp only [thenK, blockK, reduceIte]
 (repeat refine Sat.seq ?_)
 (refine Sat.region_k fun k hk => ?_; simp -implicitDefEqProofs only [evr, id, seval, res_one, par_one, idn_one, idn_0, idn_1, idn_2, resRow, res_ro, rExtract_tup, par_eq, evn]; refine hk _ ?_; clear hk k; try show Sat _ _ _ _ _)
 refine Sat.ret ?_
 simp only [Tryz.results47, evr, id, seval, res_one, par_one, idn_one, idn_0, idn_1, idn_2, List.append_nil, Int.toNat_zero, Nat.sub_self, Int.reduceToNat, resRow, res_ro, rExtract_tup, par_eq]
 first | exact .inl ⟨rfl, hq⟩ | exact .inl hq
theorem parLt_iff {x y : Par} : parLt x y = true ↔ x.a < y.a ∨ (x.a = y.a ∧ x.b < y.b) := by
 unfold parLt parCmpI Par.keys
 rw [decide_eq_true_eq, cmpL_cons, cmpL_cons]
 unfold cmpL ordI
 simp only [List.zipWith, orL]
 split <;> split <;> (try split) <;> omega
set_option maxHeartbeats 1000000 in
set_option maxRecDepth 100000 in
theorem putEvC (F : Frm) (a : Option Addr) (cap : Nat) (es : List Evd) (e : Evd) (S : SV) (hS : S.den = .slice e.ad e.ids.length e.cap) (hl : es.length ≤ 1000) :
  ContractL F Tryz.prog 49 [.os 0 a es.length cap, .agg 4 fun j => [SV.i .i64 e.kind, .i .u32 e.a, .i .u32 e.b, S].getD j default] [.row a 28 es.length cap 4 (evvRd es)]
   (fun r os => ∃ a' c' k, k ≤ es.length ∧ (∀ q, q < k → parLt (es.getD q default).pr e.pr = true) ∧ (k < es.length → parLt (es.getD k default).pr e.pr = false) ∧
    r = .os 0 a' (insL es k e).length c' ∧ os = [.row a' 28 (insL es k e).length c' 4 (evvRd (insL es k e))]) := by
 refine contractL_of Tryz.func49 rfl (by kernel_rfl) ?_
 simp only [Tryz.ntmps49, argEnv]
 refine Sat.redo 1 (.agg 4 fun j => [SV.i .i64 e.kind, .i .u32 e.a, .i .u32 e.b, .v (.slice e.ad e.ids.length e.cap)].getD j default) rfl (by simp [SV.den, List.range_succ, hS]) (fun R w => ok_aggL (l := [SV.i .i64 e.kind, .i .u32 e.a, .i .u32 e.b, .v (.slice e.ad e.ids.length e.cap)]) rfl R w) ?_
 (repeat refine Sat.seq ?_)
 (refine Sat.region_k fun k hk => ?_; simp -implicitDefEqProofs only [evr, id, seval, res_one, par_one, idn_one, idn_0, idn_1, idn_2, resRow, res_ro, rExtract_tup, par_eq, evn])
 intro b3
 (refine hk _ ?_; clear hk k; try show Sat _ _ _ _ _)
 (repeat refine Sat.seq ?_)
 (refine Sat.region_k fun k hk => ?_; simp -implicitDefEqProofs only [evr, id, seval, res_one, par_one, idn_one, idn_0, idn_1, idn_2, resRow, res_ro, rExtract_tup, par_eq, evn]; refine hk _ ?_; clear hk k; try show Sat _ _ _ _ _)
 (repeat refine Sat.seq ?_)
 refine Sat.block ?_
 refine Sat.loop (ι := Nat) (fun i => ⟨59, [(5, .i .i64 i), (0, .os 0 a es.length cap), (3, .op 1 b3 0)], [.row a 28 es.length cap 4 (evvRd es), .box b3 28 (Evd.csv e)]⟩)
  (fun i => i ≤ es.length ∧ ∀ q, q < i → parLt (es.getD q default).pr e.pr = true) (fun i => es.length - i) 0 ⟨Nat.zero_le _, fun q hq => by omega⟩ (by simp only [Evd.csv]; simp -implicitDefEqProofs only [evr, id, seval, res_one, par_one, idn_one, idn_0, idn_1, idn_2, resRow, res_ro, rExtract_tup, par_eq, evl, evn]; try rfl) ?_
 rintro i ⟨hi, hq⟩
 simp only [Evd.csv]
 (repeat refine Sat.seq ?_)
 refine Sat.joinK (ι := Bool) (fun q => ⟨59, [(39, .b q), (5, .i .i64 i), (0, .os 0 a es.length cap), (3, .op 1 b3 0)], [.row a 28 es.length cap 4 (evvRd es), .box b3 28 (Evd.csv e)]⟩)
  (fun q => q = (decide (i < es.length) && parLt (es.getD i default).pr e.pr)) (fun hrest => ?_) ?_
 ·(refine Sat.region_qk (by kernel_rfl) (by kernel_rfl) fun k hk => ?_; simp -implicitDefEqProofs only [evr, id, seval, res_one, par_one, idn_one, idn_0, idn_1, idn_2, resRow, res_ro, rExtract_tup, par_eq, evn])
  simp only [evv_1, evv_2, evr, id, seval, res_one, par_one, idn_one, idn_0, idn_1, idn_2, List.append_nil, Int.toNat_zero, Nat.sub_self, Int.reduceToNat, resRow, res_ro, rExtract_tup, par_eq]
  refine ⟨fun g1 => ?_, fun g1 => ?_⟩
  ·have hlt : i < es.length := by omega
   simp only [evvAt hlt]
   refine ⟨by omega, by omega, fun g2 => ?_, fun g2 => ⟨by omega, by omega, fun g3 => ⟨by omega, by omega, ?_⟩, fun g3 => ?_⟩⟩
   ·refine hk _ ?_
    simp only [thenK]
    refine (hrest true (by rw [decide_eq_true hlt, Bool.true_and]; exact (parLt_iff.2 (.inl g2)).symm)).le ?_
    simp only [Evd.csv]
    simp -implicitDefEqProofs only [evr, id, seval, res_one, par_one, idn_one, idn_0, idn_1, idn_2, resRow, res_ro, rExtract_tup, par_eq, evl, evn]
   ·have g4 : (es.getD i default).a = e.a := by simpa using g3
    refine hk _ ?_
    simp only [thenK]
    refine (hrest (decide ((es.getD i default).b < e.b)) (by
     rw [decide_eq_true hlt, Bool.true_and]
     apply Bool.eq_iff_iff.2
     rw [parLt_iff, decide_eq_true_eq]
     show _ ↔ (es.getD i default).a < e.a ∨ ((es.getD i default).a = e.a ∧ (es.getD i default).b < e.b)
     omega)).le ?_
    simp only [Evd.csv]
    simp -implicitDefEqProofs only [evr, id, seval, res_one, par_one, idn_one, idn_0, idn_1, idn_2, resRow, res_ro, rExtract_tup, par_eq, evl, evn]
   ·have g4 : (es.getD i default).a ≠ e.a := by simpa using g3
    refine hk _ ?_
    simp only [thenK]
    refine (hrest false (by
     rw [decide_eq_true hlt, Bool.true_and]
     symm
     rw [Bool.eq_false_iff, ne_eq, parLt_iff]
     show ¬ ((es.getD i default).a < e.a ∨ ((es.getD i default).a = e.a ∧ (es.getD i default).b < e.b))
     omega)).le ?_
    simp only [Evd.csv]
    simp -implicitDefEqProofs only [evr, id, seval, res_one, par_one, idn_one, idn_0, idn_1, idn_2, resRow, res_ro, rExtract_tup, par_eq, evl, evn]
  ·refine hk _ ?_
   simp only [thenK]
   refine (hrest false (by rw [decide_eq_false (by omega)]; rfl)).le ?_
   simp only [Evd.csv]
   simp -implicitDefEqProofs only [evr, id, seval, res_one, par_one, idn_one, idn_0, idn_1, idn_2, resRow, res_ro, rExtract_tup, par_eq, evl, evn]
 rintro q rfl
 simp only [Evd.csv]
 (repeat refine Sat.seq ?_)
 refine Sat.cond_b rfl (fun h => ?_) (fun h => ?_)
 ·rw [Bool.and_eq_true, decide_eq_true_eq] at h
  obtain ⟨hlt, hx⟩ := h
  have e1 : IntKind.i64.wrap ((i : Int) + 1) = ((i + 1 : Nat) : Int) := by rw [w64 (by omega)]; omega
  refine Sat.skip ?_
  simp only [thenK]
  (repeat refine Sat.seq ?_)
  refine Sat.block ?_
  refine Sat.region_k fun k hk => ?_
  simp -implicitDefEqProofs only [evr, id, seval, res_one, par_one, idn_one, idn_0, idn_1, idn_2, resRow, res_ro, rExtract_tup, par_eq, e1, evn]
  refine hk _ ?_
  simp only [thenK, blockK]
  refine ⟨i + 1, ⟨by omega, fun q hq2 => ?_⟩, by omega, ?_⟩
  ·by_cases e : q < i
   ·exact hq q e
   ·obtain rfl : q = i := by omega
    exact hx
  simp -implicitDefEqProofs only [evr, id, seval, res_one, par_one, idn_one, idn_0, idn_1, idn_2, resRow, res_ro, rExtract_tup, par_eq, evl, evn]
 have hno : i < es.length → parLt (es.getD i default).pr e.pr = false := fun g1 => by
  rw [decide_eq_true g1, Bool.true_and] at h
  exact h
 have e6 : IntKind.i64.wrap ((i : Int) + 1) = ((i + 1 : Nat) : Int) := by rw [w64 (by omega)]; omega
 refine Sat.exit ?_
 simp only [thenK, blockK, reduceIte]
 (repeat refine Sat.seq ?_)
 (refine Sat.region_k fun k hk => ?_; simp -implicitDefEqProofs only [evr, id, seval, res_one, par_one, idn_one, idn_0, idn_1, idn_2, resRow, res_ro, rExtract_tup, par_eq, evn])
 intro b6
 refine ⟨⟨by unfold maxLen; omega, by omega⟩, fun a2 cap2 => ?_⟩
 (refine hk _ ?_; clear hk k; try show Sat _ _ _ _ _)
 refine Sat.know_row 0 rfl fun hcap => ?_
 (repeat refine Sat.seq ?_)
 refine Sat.at ⟨59, [(5, .i .i64 i), (0, .os 0 a2 (es.length + 1) cap2), (3, .op 1 b3 0)],
  [.row a2 28 (es.length + 1) cap2 4 (rdMove (i + 1) i (es.length - i) (rdCat es.length (evvRd es) (rdL (Evd.csv e) 4))), .box b3 28 (Evd.csv e)]⟩ ?_ ?_
 ·(refine Sat.region_tree (.keep [0, 1, 2, 4, 5] [] (.alt 3 (.one 6 (.one 7 .done)) (.alt 6 (.one 3 (.one 7 .done)) .none))) (by kernel_rfl) (by kernel_rfl) (fun _ _ h => h) fun k hk => ?_; simp only [WOT, List.map_cons, List.map_nil, List.getD_cons_zero, List.getD_cons_succ]; simp -implicitDefEqProofs only [evr, id, seval, res_one, par_one, idn_one, idn_0, idn_1, idn_2, resRow, res_ro, rExtract_tup, par_eq, WOT, evn])
  simp -implicitDefEqProofs only [evr, id, seval, res_one, par_one, idn_one, idn_0, idn_1, idn_2, resRow, res_ro, rExtract_tup, par_eq, e6, evn]
  repeat' (with_reducible refine And.intro ?_ ?_)
  all_goals first | omega | skip
  all_goals
   refine hk _ ?_
   simp only [thenK, show min (es.length + 1 - i) (es.length + 1 - (i + 1)) = es.length - i by omega, show min (es.length + 1 - i) (es.length - i) = es.length - i by omega, Evd.csv]
   simp -implicitDefEqProofs only [evr, id, seval, res_one, par_one, idn_one, idn_0, idn_1, idn_2, resRow, res_ro, rExtract_tup, par_eq, evl, evn]
   try exact fun _ _ _ _ => rfl
 simp only [thenK, Evd.csv]
 (repeat refine Sat.seq ?_)
 (refine Sat.region_k fun k hk => ?_; simp -implicitDefEqProofs only [evr, id, seval, res_one, par_one, idn_one, idn_0, idn_1, idn_2, resRow, res_ro, rExtract_tup, par_eq, evn])
 refine ⟨by omega, by omega, ?_⟩
 (refine hk _ ?_; clear hk k; try show Sat _ _ _ _ _)
 have hil := insL_len (ys := es) (r := e) hi
 refine Sat.le (st' := ⟨59, [(0, .os 0 a2 (insL es i e).length cap2)], [.row a2 28 (insL es i e).length cap2 4 (evvRd (insL es i e))]⟩) ?_ ?_
 ·(repeat refine Sat.seq ?_)
  (refine Sat.region_k fun k hk => ?_; simp -implicitDefEqProofs only [evr, id, seval, res_one, par_one, idn_one, idn_0, idn_1, idn_2, resRow, res_ro, rExtract_tup, par_eq, evn]; refine hk _ ?_; clear hk k; try show Sat _ _ _ _ _)
  refine Sat.ret ?_
  simp only [Tryz.results49, evr, id, seval, res_one, par_one, idn_one, idn_0, idn_1, idn_2, List.append_nil, Int.toNat_zero, Nat.sub_self, Int.reduceToNat, resRow, res_ro, rExtract_tup, par_eq, retL, retLK, resL, lfA, lf]
  exact ⟨[_], [], rfl, by simp, a2, cap2, i, hi, hq, hno, rfl, rfl⟩
 ·simp only [hil]
  simp -implicitDefEqProofs only [evr, id, seval, res_one, par_one, idn_one, idn_0, idn_1, idn_2, resRow, res_ro, rExtract_tup, par_eq, evl, evn]
  exact ins_rd Evd.csv 4 (fun _ => rfl) hi rfl
end Go.Proofs.YtepbdjpcoleegaaGreat
