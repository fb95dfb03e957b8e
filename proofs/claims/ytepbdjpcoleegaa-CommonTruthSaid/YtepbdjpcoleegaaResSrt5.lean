import Derived.Test.YtepbdjpcoleegaaResSrt0

/- Sorting in place, by the evaluator: order2CmpFunc, medianCmpFunc, medianAdjacentCmpFunc, choosePivotCmpFunc. -/
set_option linter.unusedSimpArgs false
set_option linter.unusedVariables false
namespace Go.Proofs.Ytepbdjpcoleegaa
open Go.Sort Eng
def resSl (ad : Option Addr) (N cap : Nat) (d : Array Res) : SV := .sl ad N cap 17 (resRd d)
def cnt (blk : Nat) (s : Int) : Own := .box blk 3 [.i .i64 s]
def Counts (blk : Nat) (s n : Int) (o1 : Own) : Prop := ∃ s', s ≤ s' ∧ s' ≤ s + n ∧ o1 = cnt blk s'
set_option maxRecDepth 100000 in
theorem resO2C (F : Frm) {g : FuncId} {rdc : Nat → SV} {lt : Res → Res → Bool} (hc : resCmp g lt) (ad : Option Addr) (cap N : Nat) (d : Array Res) (hN : N ≤ 1000000000000) (a b : Nat) (ha : a < N) (hb : b < N) (blk : Nat) (s : Int) (hs : 0 ≤ s ∧ s ≤ 1000) :
  ContractM F Try.prog 110 [resSl ad N cap d, .i .i64 a, .i .i64 b, .op 0 blk 0, .fn g 0 rdc] (cnt blk s)
   (fun r o1 => Counts blk s 1 o1 ∧ ∃ x y : Nat, (x = a ∧ y = b ∨ x = b ∧ y = a) ∧ r = tupL [.i .i64 x, .i .i64 y]) := by
 refine contractM_of Try.func110 rfl (by kernel_rfl) (by rintro r o1 ⟨⟨s', _, _, rfl⟩, _⟩; rfl) ?_
 simp only [Try.ntmps110, argEnv, resSl, cnt]
 (repeat refine Sat.seq ?_)
 (refine Sat.region_k fun k hk => ?_; simp -implicitDefEqProofs only [evr, id, seval, res_one, resRow, List.append_nil, retM, retMK]; refine hk _ ?_; clear hk k; try show Sat _ _ _ _ _)
 (repeat refine Sat.seq ?_)
 refine Sat.region_qk (by kernel_rfl) (by kernel_rfl) fun k hk => ?_
 simp -implicitDefEqProofs only [evr, id, seval, res_one, resRow, List.append_nil, retM, retMK]
 refine ⟨by omega, by omega, ?_⟩
 refine res_qcmp hc d[b]! d[a]! fun c hcl => ?_
 simp -implicitDefEqProofs only [evr, id, seval, res_one, resRow, List.append_nil, retM, retMK]
 (refine hk _ ?_; clear hk k; try show Sat _ _ _ _ _)
 (repeat refine Sat.seq ?_)
 refine Sat.cond_b rfl (fun h => ?_) (fun h => ?_)
 ·(repeat refine Sat.seq ?_)
  have e1 : IntKind.i64.wrap (s + 1) = s + 1 := w64 (by omega)
  refine Sat.region_k fun k hk => ?_
  simp -implicitDefEqProofs only [evr, id, seval, res_one, resRow, List.append_nil, retM, retMK, e1]
  (refine hk _ ?_; clear hk k; try show Sat _ _ _ _ _)
  (repeat refine Sat.seq ?_)
  (refine Sat.region_k fun k hk => ?_; simp -implicitDefEqProofs only [evr, id, seval, res_one, resRow, List.append_nil, retM, retMK]; refine hk _ ?_; clear hk k; try show Sat _ _ _ _ _)
  refine Sat.ret ?_
  simp only [Try.results110, evr, id, reduceCtorEq, reduceIte, Nat.reduceMul, Nat.reduceAdd, Nat.reduceLT, Nat.reduceLeDiff, Nat.reduceEqDiff, Int.reduceLT, Int.reduceBEq, Int.reduceBNe, Nat.reduceBEq, res_one, resRow, List.append_nil, retM, retMK]
  exact ⟨rfl, _, _, rfl, ⟨s + 1, by omega, by omega, rfl⟩, b, a, .inr ⟨rfl, rfl⟩, rfl⟩
 ·refine Sat.skip ?_
  simp only [thenK]
  (repeat refine Sat.seq ?_)
  (refine Sat.region_k fun k hk => ?_; simp -implicitDefEqProofs only [evr, id, seval, res_one, resRow, List.append_nil, retM, retMK]; refine hk _ ?_; clear hk k; try show Sat _ _ _ _ _)
  refine Sat.ret ?_
  simp only [Try.results110, evr, id, reduceCtorEq, reduceIte, Nat.reduceMul, Nat.reduceAdd, Nat.reduceLT, Nat.reduceLeDiff, Nat.reduceEqDiff, Int.reduceLT, Int.reduceBEq, Int.reduceBNe, Nat.reduceBEq, res_one, resRow, List.append_nil, retM, retMK]
  exact ⟨rfl, _, _, rfl, ⟨s, by omega, by omega, rfl⟩, a, b, .inl ⟨rfl, rfl⟩, rfl⟩
set_option maxRecDepth 100000 in
theorem resMedC (F : Frm) {g : FuncId} {rdc : Nat → SV} {lt : Res → Res → Bool} (hc : resCmp g lt) (ad : Option Addr) (cap N : Nat) (d : Array Res) (hN : N ≤ 1000000000000) (a b c : Nat) (ha : a < N) (hb : b < N) (hcN : c < N) (blk : Nat) (s : Int) (hs : 0 ≤ s ∧ s ≤ 900) :
  ContractM F Try.prog 103 [resSl ad N cap d, .i .i64 a, .i .i64 b, .i .i64 c, .op 0 blk 0, .fn g 0 rdc] (cnt blk s)
   (fun r o1 => Counts blk s 3 o1 ∧ ∃ x : Nat, (x = a ∨ x = b ∨ x = c) ∧ r = .i .i64 x) := by
 refine contractM_of Try.func103 rfl (by kernel_rfl) (by rintro r o1 ⟨⟨s', _, _, rfl⟩, _⟩; rfl) ?_
 simp only [Try.ntmps103, argEnv, resSl]
 (repeat refine Sat.seq ?_)
 (refine Sat.region_k fun k hk => ?_; simp -implicitDefEqProofs only [evr, id, seval, res_one, resRow, List.append_nil, retM, retMK]; refine hk _ ?_; clear hk k; try show Sat _ _ _ _ _)
 (repeat refine Sat.seq ?_)
 (refine Sat.region_k fun k hk => ?_; simp -implicitDefEqProofs only [evr, id, seval, res_one, resRow, List.append_nil, retM, retMK])
 refine wcall_mut 0 (resO2C F (rdc := rdc) hc ad cap N d hN a b ha hb blk s (by omega)) rfl rfl ?_
 rintro r o1 ⟨⟨s1, hs1, hs1', rfl⟩, x1, y1, hxy1, rfl⟩
 simp -implicitDefEqProofs only [evr, id, seval, res_one, resRow, List.append_nil, retM, retMK]
 (refine hk _ ?_; clear hk k; try show Sat _ _ _ _ _)
 (repeat refine Sat.seq ?_)
 (refine Sat.region_k fun k hk => ?_; simp -implicitDefEqProofs only [evr, id, seval, res_one, resRow, List.append_nil, retM, retMK])
 refine wcall_mut 0 (resO2C F (rdc := rdc) hc ad cap N d hN y1 c (by omega) hcN blk s1 (by omega)) rfl rfl ?_
 rintro r o1 ⟨⟨s2, hs2, hs2', rfl⟩, x2, y2, hxy2, rfl⟩
 simp -implicitDefEqProofs only [evr, id, seval, res_one, resRow, List.append_nil, retM, retMK]
 (refine hk _ ?_; clear hk k; try show Sat _ _ _ _ _)
 (repeat refine Sat.seq ?_)
 (refine Sat.region_k fun k hk => ?_; simp -implicitDefEqProofs only [evr, id, seval, res_one, resRow, List.append_nil, retM, retMK])
 refine wcall_mut 0 (resO2C F (rdc := rdc) hc ad cap N d hN x1 x2 (by omega) (by omega) blk s2 (by omega)) rfl rfl ?_
 rintro r o1 ⟨⟨s3, hs3, hs3', rfl⟩, x3, y3, hxy3, rfl⟩
 simp -implicitDefEqProofs only [evr, id, seval, res_one, resRow, List.append_nil, retM, retMK]
 (refine hk _ ?_; clear hk k; try show Sat _ _ _ _ _)
 (repeat refine Sat.seq ?_)
 (refine Sat.region_k fun k hk => ?_; simp -implicitDefEqProofs only [evr, id, seval, res_one, resRow, List.append_nil, retM, retMK]; refine hk _ ?_; clear hk k; try show Sat _ _ _ _ _)
 refine Sat.ret ?_
 simp only [Try.results103, evr, id, reduceCtorEq, reduceIte, Nat.reduceMul, Nat.reduceAdd, Nat.reduceLT, Nat.reduceLeDiff, Nat.reduceEqDiff, Int.reduceLT, Int.reduceBEq, Int.reduceBNe, Nat.reduceBEq, res_one, resRow, List.append_nil, retM, retMK]
 exact ⟨rfl, _, _, rfl, ⟨s3, by omega, by omega, rfl⟩, y3, by omega, rfl⟩
set_option maxRecDepth 100000 in
theorem resMedAC (F : Frm) {g : FuncId} {rdc : Nat → SV} {lt : Res → Res → Bool} (hc : resCmp g lt) (ad : Option Addr) (cap N : Nat) (d : Array Res) (hN : N ≤ 1000000000000) (a : Nat) (ha : 1 ≤ a) (ha2 : a + 1 < N) (blk : Nat) (s : Int) (hs : 0 ≤ s ∧ s ≤ 900) :
  ContractM F Try.prog 102 [resSl ad N cap d, .i .i64 a, .op 0 blk 0, .fn g 0 rdc] (cnt blk s)
   (fun r o1 => Counts blk s 3 o1 ∧ ∃ x : Nat, (a - 1 ≤ x ∧ x ≤ a + 1) ∧ r = .i .i64 x) := by
 refine contractM_of Try.func102 rfl (by kernel_rfl) (by rintro r o1 ⟨⟨s', _, _, rfl⟩, _⟩; rfl) ?_
 simp only [Try.ntmps102, argEnv, resSl]
 (repeat refine Sat.seq ?_)
 (refine Sat.region_k fun k hk => ?_; simp -implicitDefEqProofs only [evr, id, seval, res_one, resRow, List.append_nil, retM, retMK]; refine hk _ ?_; clear hk k; try show Sat _ _ _ _ _)
 (repeat refine Sat.seq ?_)
 have e1 : IntKind.i64.wrap ((a : Int) - 1) = ((a - 1 : Nat) : Int) := by rw [w64 (by omega)]; omega
 have e2 : IntKind.i64.wrap ((a : Int) + 1) = ((a + 1 : Nat) : Int) := by rw [w64 (by omega)]; omega
 refine Sat.region_k fun k hk => ?_
 simp -implicitDefEqProofs only [evr, id, seval, res_one, resRow, List.append_nil, retM, retMK, e1, e2]
 refine wcall_mut 0 (resMedC F (rdc := rdc) hc ad cap N d hN (a - 1) a (a + 1) (by omega) (by omega) (by omega) blk s (by omega)) rfl rfl ?_
 rintro r o1 ⟨⟨s1, hs1, hs1', rfl⟩, x1, hx1, rfl⟩
 simp -implicitDefEqProofs only [evr, id, seval, res_one, resRow, List.append_nil, retM, retMK]
 (refine hk _ ?_; clear hk k; try show Sat _ _ _ _ _)
 refine Sat.ret ?_
 simp only [Try.results102, evr, id, reduceCtorEq, reduceIte, Nat.reduceMul, Nat.reduceAdd, Nat.reduceLT, Nat.reduceLeDiff, Nat.reduceEqDiff, Int.reduceLT, Int.reduceBEq, Int.reduceBNe, Nat.reduceBEq, res_one, resRow, List.append_nil, retM, retMK]
 exact ⟨rfl, _, _, rfl, ⟨s1, by omega, by omega, rfl⟩, x1, by omega, rfl⟩
set_option maxRecDepth 100000 in
theorem resChC (F : Frm) {g : FuncId} {rdc : Nat → SV} {lt : Res → Res → Bool} (hc : resCmp g lt) (ad : Option Addr) (cap N : Nat) (d : Array Res) (hN : N ≤ 1000000000000) (a b : Nat) (hab : a + 12 < b) (hb : b ≤ N) :
  Contract F Try.prog 82 [resSl ad N cap d, .i .i64 a, .i .i64 b, .fn g 0 rdc]
   (fun r => ∃ (x : Nat) (h : Int), a ≤ x ∧ x < b ∧ r = tupL [.i .i64 x, .i .i64 h]) := by
 refine contract_of Try.func82 rfl (by kernel_rfl) ?_
 simp only [Try.ntmps82, argEnv, resSl]
 (repeat refine Sat.seq ?_)
 (refine Sat.region_k fun k hk => ?_; simp -implicitDefEqProofs only [evr, id, seval, res_one, resRow, List.append_nil, retM, retMK]; refine hk _ ?_; clear hk k; try show Sat _ _ _ _ _)
 (repeat refine Sat.seq ?_)
 obtain ⟨l, hl⟩ : ∃ l, l = b - a := ⟨_, rfl⟩
 have e1 : IntKind.i64.wrap ((b : Int) - (a : Int)) = (l : Int) := by rw [w64 (by omega)]; omega
 refine Sat.region_k fun k hk => ?_
 simp -implicitDefEqProofs only [evr, id, seval, res_one, resRow, List.append_nil, retM, retMK, e1]
 (refine hk _ ?_; clear hk k; try show Sat _ _ _ _ _)
 (repeat refine Sat.seq ?_)
 (refine Sat.region_k fun k hk => ?_; simp -implicitDefEqProofs only [evr, id, seval, res_one, resRow, List.append_nil, retM, retMK])
 intro blk
 (refine hk _ ?_; clear hk k; try show Sat _ _ _ _ _)
 have q1 : IntKind.i64.wrap ((l : Int).tdiv 4) = ((l / 4 : Nat) : Int) := by rw [Int.tdiv_eq_ediv_of_nonneg (by omega), w64 (by omega)]; omega
 have q2 : ∀ n : Nat, n ≤ 3 → IntKind.i64.wrap (((l / 4 : Nat) : Int) * (n : Int)) = ((l / 4 * n : Nat) : Int) := fun n hn => by
  have h1 : l / 4 * n ≤ l / 4 * 3 := Nat.mul_le_mul_left _ hn
  rw [← Int.natCast_mul, w64 (by omega)]
 have q3 : ∀ n : Nat, n ≤ 3 → IntKind.i64.wrap ((a : Int) + ((l / 4 * n : Nat) : Int)) = ((a + l / 4 * n : Nat) : Int) := fun n hn => by
  have h1 : l / 4 * n ≤ l / 4 * 3 := Nat.mul_le_mul_left _ hn
  rw [w64 (by omega)]; omega
 (repeat refine Sat.seq ?_)
 refine Sat.region_k fun k hk => ?_
 simp -implicitDefEqProofs only [evr, id, reduceCtorEq, reduceIte, Nat.reduceMul, Nat.reduceAdd, Nat.reduceLT, Nat.reduceLeDiff, Nat.reduceEqDiff, Int.reduceLT, Int.reduceBEq, Int.reduceBNe, Nat.reduceBEq, res_one, resRow, List.append_nil, retM, retMK, q1]
 refine ⟨by decide, ?_⟩
 have q11 : IntKind.i64.wrap (((l / 4 : Nat) : Int) * 1) = ((l / 4 * 1 : Nat) : Int) := q2 1 (by omega)
 have q12 : IntKind.i64.wrap (((l / 4 : Nat) : Int) * 2) = ((l / 4 * 2 : Nat) : Int) := q2 2 (by omega)
 have q13 : IntKind.i64.wrap (((l / 4 : Nat) : Int) * 3) = ((l / 4 * 3 : Nat) : Int) := q2 3 (by omega)
 rw [q11, q3 1 (by omega)]
 (refine hk _ ?_; clear hk k; try show Sat _ _ _ _ _)
 (repeat refine Sat.seq ?_)
 refine Sat.region_k fun k hk => ?_
 simp -implicitDefEqProofs only [evr, id, reduceCtorEq, reduceIte, Nat.reduceMul, Nat.reduceAdd, Nat.reduceLT, Nat.reduceLeDiff, Nat.reduceEqDiff, Int.reduceLT, Int.reduceBEq, Int.reduceBNe, Nat.reduceBEq, res_one, resRow, List.append_nil, retM, retMK, q1]
 refine ⟨by decide, ?_⟩
 rw [q12, q3 2 (by omega)]
 (refine hk _ ?_; clear hk k; try show Sat _ _ _ _ _)
 (repeat refine Sat.seq ?_)
 refine Sat.region_k fun k hk => ?_
 simp -implicitDefEqProofs only [evr, id, reduceCtorEq, reduceIte, Nat.reduceMul, Nat.reduceAdd, Nat.reduceLT, Nat.reduceLeDiff, Nat.reduceEqDiff, Int.reduceLT, Int.reduceBEq, Int.reduceBNe, Nat.reduceBEq, res_one, resRow, List.append_nil, retM, retMK, q1]
 refine ⟨by decide, ?_⟩
 rw [q13, q3 3 (by omega)]
 (refine hk _ ?_; clear hk k; try show Sat _ _ _ _ _)
 (repeat refine Sat.seq ?_)
 (refine Sat.region_k fun k hk => ?_; simp -implicitDefEqProofs only [evr, id, seval, res_one, resRow, List.append_nil, retM, retMK]; refine hk _ ?_; clear hk k; try show Sat _ _ _ _ _)
 refine Sat.atF (ι := Nat × Int) (fun x => ⟨63, [(13, .i .i64 x.1), (11, .op 0 blk 0)], [cnt blk x.2]⟩) (fun x => a ≤ x.1 ∧ x.1 < b) ?_ ?_
 ·refine Sat.cond_b rfl (fun h => ?_) (fun h => ?_)
  ·(repeat refine Sat.seq ?_)
   (refine Sat.region_k fun k hk => ?_; simp -implicitDefEqProofs only [evr, id, seval, res_one, resRow, List.append_nil, retM, retMK]; refine hk _ ?_; clear hk k; try show Sat _ _ _ _ _)
   (repeat refine Sat.seq ?_)
   refine Sat.atF (ι := Nat × Nat × Nat × Int) (fun x => ⟨63, [(12, .i .i64 x.1), (13, .i .i64 x.2.1), (14, .i .i64 x.2.2.1), (0, resSl ad N cap d), (3, .fn g 0 rdc), (11, .op 0 blk 0)], [cnt blk x.2.2.2]⟩)
    (fun x => a ≤ x.1 ∧ x.1 < b ∧ a ≤ x.2.1 ∧ x.2.1 < b ∧ a ≤ x.2.2.1 ∧ x.2.2.1 < b ∧ 0 ≤ x.2.2.2 ∧ x.2.2.2 ≤ 100) ?_ ?_
   ·refine Sat.cond_b rfl (fun h2 => ?_) (fun h2 => ?_)
    ·simp only [decide_eq_true_eq] at h2
     (repeat refine Sat.seq ?_)
     (refine Sat.region_k fun k hk => ?_; simp -implicitDefEqProofs only [evr, id, seval, res_one, resRow, List.append_nil, retM, retMK])
     refine wcall_mut 0 (resMedAC F (rdc := rdc) hc ad cap N d hN (a + l / 4 * 1) (by omega) (by omega) blk 0 (by omega)) rfl rfl ?_
     rintro r o1 ⟨⟨s1, hs1, hs1', rfl⟩, x1, hx1, rfl⟩
     simp -implicitDefEqProofs only [evr, id, seval, res_one, resRow, List.append_nil, retM, retMK]
     (refine hk _ ?_; clear hk k; try show Sat _ _ _ _ _)
     (repeat refine Sat.seq ?_)
     (refine Sat.region_k fun k hk => ?_; simp -implicitDefEqProofs only [evr, id, seval, res_one, resRow, List.append_nil, retM, retMK])
     refine wcall_mut 0 (resMedAC F (rdc := rdc) hc ad cap N d hN (a + l / 4 * 2) (by omega) (by omega) blk s1 (by omega)) rfl rfl ?_
     rintro r o1 ⟨⟨s2, hs2, hs2', rfl⟩, x2, hx2, rfl⟩
     simp -implicitDefEqProofs only [evr, id, seval, res_one, resRow, List.append_nil, retM, retMK]
     (refine hk _ ?_; clear hk k; try show Sat _ _ _ _ _)
     (repeat refine Sat.seq ?_)
     (refine Sat.region_k fun k hk => ?_; simp -implicitDefEqProofs only [evr, id, seval, res_one, resRow, List.append_nil, retM, retMK])
     refine wcall_mut 0 (resMedAC F (rdc := rdc) hc ad cap N d hN (a + l / 4 * 3) (by omega) (by omega) blk s2 (by omega)) rfl rfl ?_
     rintro r o1 ⟨⟨s3, hs3, hs3', rfl⟩, x3, hx3, rfl⟩
     simp -implicitDefEqProofs only [evr, id, seval, res_one, resRow, List.append_nil, retM, retMK]
     refine hk _ ?_
     simp only [thenK]
     refine ⟨(x1, x2, x3, s3), ⟨by show a ≤ x1; omega, by show x1 < b; omega, by show a ≤ x2; omega, by show x2 < b; omega, by show a ≤ x3; omega, by show x3 < b; omega, by show 0 ≤ s3; omega, by show s3 ≤ 100; omega⟩, ?_⟩
     simp only [resSl, cnt]
     simp -implicitDefEqProofs only [evr, id, seval, res_one, resRow, List.append_nil, retM, retMK, evl]
    ·refine Sat.skip ?_
     simp only [thenK]
     refine ⟨(a + l / 4 * 1, a + l / 4 * 2, a + l / 4 * 3, 0), ⟨by show a ≤ a + l / 4 * 1; omega, by show a + l / 4 * 1 < b; omega, by show a ≤ a + l / 4 * 2; omega, by show a + l / 4 * 2 < b; omega, by show a ≤ a + l / 4 * 3; omega, by show a + l / 4 * 3 < b; omega, by show (0 : Int) ≤ 0; omega, by show (0 : Int) ≤ 100; omega⟩, ?_⟩
     simp only [resSl, cnt]
     simp -implicitDefEqProofs only [evr, id, seval, res_one, resRow, List.append_nil, retM, retMK, evl]
   ·rintro ⟨x1, x2, x3, s⟩ ⟨h1, h2, h3, h4, h5, h6, h7, h8⟩
    simp only [resSl] at h1 h2 h3 h4 h5 h6 h7 h8 ⊢
    simp only [thenK]
    (repeat refine Sat.seq ?_)
    (refine Sat.region_k fun k hk => ?_; simp -implicitDefEqProofs only [evr, id, seval, res_one, resRow, List.append_nil, retM, retMK])
    refine wcall_mut 0 (resMedC F (rdc := rdc) hc ad cap N d hN x1 x2 x3 (by omega) (by omega) (by omega) blk s (by omega)) rfl rfl ?_
    rintro r o1 ⟨⟨s4, hs4, hs4', rfl⟩, x4, hx4, rfl⟩
    simp -implicitDefEqProofs only [evr, id, seval, res_one, resRow, List.append_nil, retM, retMK]
    refine hk _ ?_
    simp only [thenK]
    refine ⟨(x4, s4), ⟨by show a ≤ x4; omega, by show x4 < b; omega⟩, ?_⟩
    simp only [cnt]
    simp -implicitDefEqProofs only [evr, id, seval, res_one, resRow, List.append_nil, retM, retMK, evl]
  ·refine Sat.skip ?_
   simp only [thenK]
   refine ⟨(a + l / 4 * 2, 0), ⟨by show a ≤ a + l / 4 * 2; omega, by show a + l / 4 * 2 < b; omega⟩, ?_⟩
   simp only [cnt]
   simp -implicitDefEqProofs only [evr, id, seval, res_one, resRow, List.append_nil, retM, retMK, evl]
 ·rintro ⟨x, s⟩ ⟨h1, h2⟩
  simp only [cnt] at h1 h2 ⊢
  simp only [thenK]
  (repeat refine Sat.seq ?_)
  (refine Sat.region_k fun k hk => ?_; simp -implicitDefEqProofs only [evr, id, seval, res_one, resRow, List.append_nil, retM, retMK])
  (refine hk _ ?_; clear hk k; try show Sat _ _ _ _ _)
  (repeat refine Sat.seq ?_)
  refine Sat.block ?_
  (repeat refine Sat.seq ?_)
  (refine Sat.region_k fun k hk => ?_; simp -implicitDefEqProofs only [evr, id, seval, res_one, resRow, List.append_nil, retM, retMK]; refine hk _ ?_; clear hk k; try show Sat _ _ _ _ _)
  refine Sat.cond_b rfl (fun h => ?_) (fun h => ?_)
  ·(repeat refine Sat.seq ?_)
   (refine Sat.region_k fun k hk => ?_; simp -implicitDefEqProofs only [evr, id, seval, res_one, resRow, List.append_nil, retM, retMK]; refine hk _ ?_; clear hk k; try show Sat _ _ _ _ _)
   refine Sat.ret ?_
   simp only [Try.results82, evr, id, reduceCtorEq, reduceIte, Nat.reduceMul, Nat.reduceAdd, Nat.reduceLT, Nat.reduceLeDiff, Nat.reduceEqDiff, Int.reduceLT, Int.reduceBEq, Int.reduceBNe, Nat.reduceBEq, res_one, resRow, List.append_nil, retM, retMK]
   exact ⟨x, 1, h1, h2, rfl⟩
  ·(repeat refine Sat.seq ?_)
   (refine Sat.region_k fun k hk => ?_; simp -implicitDefEqProofs only [evr, id, seval, res_one, resRow, List.append_nil, retM, retMK]; refine hk _ ?_; clear hk k; try show Sat _ _ _ _ _)
   refine Sat.cond_b rfl (fun h => ?_) (fun h => ?_)
   ·(repeat refine Sat.seq ?_)
    (refine Sat.region_k fun k hk => ?_; simp -implicitDefEqProofs only [evr, id, seval, res_one, resRow, List.append_nil, retM, retMK]; refine hk _ ?_; clear hk k; try show Sat _ _ _ _ _)
    refine Sat.ret ?_
    simp only [Try.results82, evr, id, reduceCtorEq, reduceIte, Nat.reduceMul, Nat.reduceAdd, Nat.reduceLT, Nat.reduceLeDiff, Nat.reduceEqDiff, Int.reduceLT, Int.reduceBEq, Int.reduceBNe, Nat.reduceBEq, res_one, resRow, List.append_nil, retM, retMK]
    exact ⟨x, 2, h1, h2, rfl⟩
   ·(repeat refine Sat.seq ?_)
    (refine Sat.region_k fun k hk => ?_; simp -implicitDefEqProofs only [evr, id, seval, res_one, resRow, List.append_nil, retM, retMK]; refine hk _ ?_; clear hk k; try show Sat _ _ _ _ _)
    refine Sat.ret ?_
    simp only [Try.results82, evr, id, reduceCtorEq, reduceIte, Nat.reduceMul, Nat.reduceAdd, Nat.reduceLT, Nat.reduceLeDiff, Nat.reduceEqDiff, Int.reduceLT, Int.reduceBEq, Int.reduceBNe, Nat.reduceBEq, res_one, resRow, List.append_nil, retM, retMK]
    exact ⟨x, 0, h1, h2, rfl⟩
end Go.Proofs.Ytepbdjpcoleegaa
