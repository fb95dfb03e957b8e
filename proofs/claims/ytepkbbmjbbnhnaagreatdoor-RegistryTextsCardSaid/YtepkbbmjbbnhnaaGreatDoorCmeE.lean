/- registry.Compare; the place of an entry, by the evaluator. -/
import Derived.Test.YtepkbbmjbbnhnaaGreatDoorRgvE
set_option linter.unusedSimpArgs false
set_option linter.unusedVariables false
namespace Go.Proofs.YtepkbbmjbbnhnaaGreatDoor
open Go.Sort Eng
def cmpE (a b : Ent) : Int := cmpL a.keys b.keys
theorem orL_cons (x : Int) (l : List Int) : orL (x :: l) = if x ≠ 0 then x else orL l := rfl
theorem orL_app : ∀ l m : List Int, orL (l ++ m) = if orL l ≠ 0 then orL l else orL m
  | [], m => by simp [orL]
  | x :: l, m => by
    rw [List.cons_append, orL_cons, orL_cons, orL_app l m]
    by_cases h : x = 0
    · simp only [h, ne_eq, not_true, if_false]
    · simp only [ne_eq, h, not_false_eq_true, if_true]
theorem orL_one (x : Int) : orL [x] = x := by unfold orL orL; split <;> omega
theorem orL_cut (l m : List Int) : orL (l ++ m) = orL (orL l :: m) := by
  rw [show orL l :: m = [orL l] ++ m from rfl, orL_app l m, orL_app [orL l] m, orL_one]
theorem cmpE_or (a b : Ent) : cmpE a b = orL [cmpL a.pk b.pk, ordI a.from_ b.from_, ordI a.to_ b.to_, ordI a.prov b.prov] := orL_cut [ordI a.addr b.addr, ordI a.len b.len] _
set_option maxRecDepth 100000 in
theorem compareEC (F : Frm) (e f : Ent) : Contract F Tryz.prog 26 [entS e, entS f] (fun r => r = .i .i64 (cmpE e f)) := by
  refine contract_of Tryz.func26 rfl (by kernel_rfl) ?_
  simp only [Tryz.ntmps26, argEnv, entS, Ent.cs]
  (repeat refine Sat.seq ?_)
  (refine Sat.region_k fun k hk => ?_; simp -implicitDefEqProofs only [evr, id, seval, ent0, ent1, ent2, ent3, ent4, Nat.sub_zero, evn])
  intro b1 b2
  (refine hk _ ?_; clear hk k; try show Sat _ _ _ _ _)
  (repeat refine Sat.seq ?_)
  (refine Sat.region_rows [⟨0, 6, 4, 0⟩, ⟨1, 7, 32, 1⟩, ⟨0, 8, 8, 0⟩, ⟨4, 9, 128, 1⟩, ⟨10, 10, 320, 2⟩, ⟨0, 11, 4, 0⟩, ⟨32, 12, 1024, 1⟩, ⟨0, 13, 8, 0⟩, ⟨128, 14, 4096, 1⟩, ⟨336, 15, 10240, 2⟩, ⟨0, 16, 4, 0⟩, ⟨1024, 17, 32768, 1⟩, ⟨0, 18, 8, 0⟩, ⟨4096, 19, 131072, 1⟩, ⟨10752, 20, 327680, 2⟩, ⟨0, 21, 4, 0⟩, ⟨32768, 22, 1048576, 1⟩, ⟨0, 23, 8, 0⟩, ⟨131072, 24, 4194304, 1⟩, ⟨344064, 25, 10485760, 2⟩, ⟨541200, 26, 17318400, 2⟩, ⟨1572864, 27, 33554432, 2⟩, ⟨4194303, 5, 67108864, 0⟩] [0, 2, 5, 7, 10, 12, 15, 17, 1, 3, 6, 8, 11, 13, 16, 18] [(4, false), (9, false), (14, false), (19, false), (20, false), (21, false), (22, false)] [4, 9, 14] (by kernel_rfl) (by kernel_rfl) (fun _ _ h => h) fun k hk => ?_; simp only [List.map_cons, List.map_nil, List.getD_cons_zero, List.getD_cons_succ, btseq_cons, btseq_free, btseq_nil]; simp -implicitDefEqProofs only [evr, id, seval, ent0, ent1, ent2, ent3, ent4, Nat.sub_zero, evn])
  refine wcall_plain ((adCompareC F e.pr f.pr).of_sim (ent_pr2 _ _)) (by simp -implicitDefEqProofs only [evr, id, seval, ent0, ent1, ent2, ent3, ent4, Nat.sub_zero, evn]) (by rintro _ rfl; exact ok_plain rfl) ?_
  rintro r rfl
  simp -implicitDefEqProofs only [evr, id, seval, ent0, ent1, ent2, ent3, ent4, Nat.sub_zero, cmpP_pk, evn]
  refine wcall_plain (cmpC F e.from_ f.from_) rfl (by rintro _ rfl; exact ok_plain rfl) ?_
  rintro r rfl
  simp -implicitDefEqProofs only [evr, id, seval, ent0, ent1, ent2, ent3, ent4, Nat.sub_zero, evn]
  refine wcall_plain (cmpC F e.to_ f.to_) rfl (by rintro _ rfl; exact ok_plain rfl) ?_
  rintro r rfl
  simp -implicitDefEqProofs only [evr, id, seval, ent0, ent1, ent2, ent3, ent4, Nat.sub_zero, evn]
  refine wcall_plain (cmpC F e.prov f.prov) rfl (by rintro _ rfl; exact ok_plain rfl) ?_
  rintro r rfl
  simp -implicitDefEqProofs only [evr, id, seval, ent0, ent1, ent2, ent3, ent4, Nat.sub_zero, evn]
  intro blk3
  refine wcall_plain (orC F (some ⟨blk3, 0, none⟩) 4 [cmpL e.pk f.pk, ordI e.from_ f.from_, ordI e.to_ f.to_, ordI e.prov f.prov] (by simp)) (by simp -implicitDefEqProofs only [evr, id, seval, ent0, ent1, ent2, ent3, ent4, Nat.sub_zero, intsRd, evn]) (by rintro _ rfl; exact ok_plain rfl) ?_
  rintro r rfl
  simp -implicitDefEqProofs only [evr, id, seval, ent0, ent1, ent2, ent3, ent4, Nat.sub_zero, evn]
  (refine hk _ ?_; clear hk k; try show Sat _ _ _ _ _)
  refine Sat.ret ?_
  simp only [Tryz.results26, evr, id, seval, List.append_nil, Int.toNat_zero, Nat.sub_self, ent0, ent1, ent2, ent3, ent4, Nat.sub_zero]
  rw [cmpE_or]
def plc (q : Prf) (t : Int) (e : Ent) : Int := cmpL e.fk [(q.addr : Int), q.len, t]
theorem plc_or (q : Prf) (t : Int) (e : Ent) : plc q t e = orL [cmpP e.pr q, ordI e.from_ t] := orL_cut [ordI e.addr q.addr, ordI e.len q.len] _
set_option maxRecDepth 100000 in
theorem placeFnC (F : Frm) (e : Ent) (t : Int) (q : Prf) (a : Addr) : Contract F Tryz.prog 74 [entS e, .i .i64 t, .el a 2 fun j => (prC q).getD j default] (fun r => r = .i .i64 (plc q t e)) := by
  refine contract_of Tryz.func74 rfl (by kernel_rfl) ?_
  simp only [Tryz.ntmps74, argEnv, entS, Ent.cs, prC]
  (repeat refine Sat.seq ?_)
  (refine Sat.region_k fun k hk => ?_; simp -implicitDefEqProofs only [evr, id, seval, ent0, ent1, ent2, ent3, ent4, Nat.sub_zero, evn])
  intro b1
  (refine hk _ ?_; clear hk k; try show Sat _ _ _ _ _)
  (repeat refine Sat.seq ?_)
  (refine Sat.region_rows [⟨0, 7, 8, 0⟩, ⟨1, 8, 64, 1⟩, ⟨0, 9, 4, 1⟩, ⟨6, 10, 384, 2⟩, ⟨0, 11, 8, 0⟩, ⟨16, 12, 1024, 1⟩, ⟨0, 13, 2, 0⟩, ⟨104, 14, 6144, 2⟩, ⟨136, 15, 8704, 2⟩, ⟨384, 16, 16384, 2⟩, ⟨1023, 6, 32768, 0⟩] [0, 4, 6, 1, 2, 5] [(3, false), (7, false), (8, false), (9, false), (10, false)] [3] (by kernel_rfl) (by kernel_rfl) (fun _ _ h => h) fun k hk => ?_; simp only [List.map_cons, List.map_nil, List.getD_cons_zero, List.getD_cons_succ, btseq_cons, btseq_free, btseq_nil]; simp -implicitDefEqProofs only [evr, id, seval, ent0, ent1, ent2, ent3, ent4, Nat.sub_zero, evn])
  refine wcall_plain ((adCompareC F e.pr q).of_sim (args := [.agg 2 fun j => [SV.i .u32 (e.addr : Nat), .i .i64 e.len, .i .i64 e.prov, .i .i64 e.from_, .i .i64 e.to_].getD j default, .agg 2 fun j => [SV.i .u32 (q.addr : Nat), .i .i64 q.len].getD j default]) ⟨(ent_pr e).1, sim_refl _, trivial⟩) (by simp -implicitDefEqProofs only [evr, id, seval, ent0, ent1, ent2, ent3, ent4, Nat.sub_zero, evn]) (by rintro _ rfl; exact ok_plain rfl) ?_
  rintro r rfl
  simp -implicitDefEqProofs only [evr, id, seval, ent0, ent1, ent2, ent3, ent4, Nat.sub_zero, evn]
  refine wcall_plain (cmpC F e.from_ t) rfl (by rintro _ rfl; exact ok_plain rfl) ?_
  rintro r rfl
  simp -implicitDefEqProofs only [evr, id, seval, ent0, ent1, ent2, ent3, ent4, Nat.sub_zero, evn]
  intro blk3
  refine wcall_plain (orC F (some ⟨blk3, 0, none⟩) 2 [cmpP e.pr q, ordI e.from_ t] (by simp)) (by simp -implicitDefEqProofs only [evr, id, seval, ent0, ent1, ent2, ent3, ent4, Nat.sub_zero, intsRd, evn]) (by rintro _ rfl; exact ok_plain rfl) ?_
  rintro r rfl
  simp -implicitDefEqProofs only [evr, id, seval, ent0, ent1, ent2, ent3, ent4, Nat.sub_zero, evn]
  (refine hk _ ?_; clear hk k; try show Sat _ _ _ _ _)
  refine Sat.ret ?_
  simp only [Tryz.results74, evr, id, seval, List.append_nil, Int.toNat_zero, Nat.sub_self, ent0, ent1, ent2, ent3, ent4, Nat.sub_zero]
  rw [plc_or]
set_option maxRecDepth 100000 in
theorem bsearchC (F : Frm) (ad : Option Addr) (cap : Nat) (es : List Ent) (hn : es.length ≤ 1152921504606846976) (t : Int) (g : FuncId) (m : Nat) (rd : Nat → SV) (c : Ent → Int)
    (hp : ∀ i : Nat, i < es.length → Contract F Tryz.prog g ([entS (es.getD i default), .i .i64 t] ++ (List.range m).map rd) (fun r => r = .i .i64 (c (es.getD i default))))
    (hro : ∀ own : List Own, ((List.range m).map rd).map (roArg own) = (List.range m).map rd) :
    Contract F Tryz.prog 73 [.sl ad es.length cap 5 (entRd es), .i .i64 t, .fn g m rd]
      (fun r => ∃ j : Nat, ∃ b : Bool, j ≤ es.length ∧ (j < es.length → 0 ≤ c (es.getD j default)) ∧ (0 < j → c (es.getD (j - 1) default) < 0) ∧ r = tupL [.i .i64 j, .b b]) := by
  refine contract_of Tryz.func73 rfl (by kernel_rfl) ?_
  simp only [Tryz.ntmps73, argEnv]
  (repeat refine Sat.seq ?_)
  (refine Sat.region_k fun k hk => ?_; simp -implicitDefEqProofs only [evr, id, seval, ent0, ent1, ent2, ent3, ent4, Nat.sub_zero, evn]; refine hk _ ?_; clear hk k; try show Sat _ _ _ _ _)
  (repeat refine Sat.seq ?_)
  (refine Sat.region_k fun k hk => ?_; simp -implicitDefEqProofs only [evr, id, seval, ent0, ent1, ent2, ent3, ent4, Nat.sub_zero, evn]; refine hk _ ?_; clear hk k; try show Sat _ _ _ _ _)
  (repeat refine Sat.seq ?_)
  (refine Sat.region_k fun k hk => ?_; simp -implicitDefEqProofs only [evr, id, seval, ent0, ent1, ent2, ent3, ent4, Nat.sub_zero, evn]; refine hk _ ?_; clear hk k; try show Sat _ _ _ _ _)
  (repeat refine Sat.seq ?_)
  refine Sat.block ?_
  refine Sat.loop (ι := Nat × Nat) (fun q => ⟨49, [(9, .i .i64 q.1), (10, .i .i64 q.2), (8, .i .i64 es.length), (0, .sl ad es.length cap 5 (entRd es)), (1, .i .i64 t), (2, .fn g m rd)], []⟩)
    (fun q => q.1 ≤ q.2 ∧ q.2 ≤ es.length ∧ (q.2 < es.length → 0 ≤ c (es.getD q.2 default)) ∧ (0 < q.1 → c (es.getD (q.1 - 1) default) < 0)) (fun q => q.2 - q.1) (0, es.length) ⟨by simp, by simp, by simp, by simp⟩ (by simp -implicitDefEqProofs only [evr, id, seval, ent0, ent1, ent2, ent3, ent4, Nat.sub_zero, evl, evn]) ?_
  rintro ⟨i, j⟩ ⟨hij, hjn, hpj, hpi⟩
  simp only at hij hjn hpj hpi ⊢
  (repeat refine Sat.seq ?_)
  (refine Sat.region_k fun k hk => ?_; simp -implicitDefEqProofs only [evr, id, seval, ent0, ent1, ent2, ent3, ent4, Nat.sub_zero, evn]; refine hk _ ?_; clear hk k; try show Sat _ _ _ _ _)
  (repeat refine Sat.seq ?_)
  refine Sat.cond_b rfl (fun h2 => ?_) (fun h2 => ?_)
  · simp only [decide_eq_true_eq] at h2
    have hlt : i < j := by omega
    have e1 : IntKind.i64.wrap ((i : Int) + j) = ((i + j : Nat) : Int) := by rw [w64 (by omega)]; omega
    refine Sat.skip ?_
    simp only [thenK]
    (repeat refine Sat.seq ?_)
    refine Sat.block ?_
    (repeat refine Sat.seq ?_)
    refine Sat.region_k (fun k hk => ?_)
    simp -implicitDefEqProofs only [evr, id, seval, ent0, ent1, ent2, ent3, ent4, Nat.sub_zero, evn]
    have eh : IntKind.i64.wrap ((IntKind.u64.wrap (IntKind.i64.wrap ((i : Int) + j))).fdiv (2 ^ min 1 IntKind.u64.bits)) = (((i + j) / 2 : Nat) : Int) := by
      have e2 : IntKind.u64.wrap ((i + j : Nat) : Int) = ((i + j : Nat) : Int) := by simp [IntKind.wrap, IntKind.bits, IntKind.signed]; omega
      have e3 : (2 ^ min 1 IntKind.u64.bits : Int) = 2 := by decide
      rw [e1, e2, e3, Int.fdiv_eq_ediv_of_nonneg _ (by omega), w64 (by omega)]
      omega
    simp only [eh]
    refine hk _ ?_
    (repeat refine Sat.seq ?_)
    refine Sat.region_k (fun k hk => ?_)
    simp -implicitDefEqProofs only [evr, id, seval, ent0, ent1, ent2, ent3, ent4, Nat.sub_zero, evn]
    refine ⟨by omega, ?_⟩
    refine wcall_plain (hp ((i + j) / 2) (by omega)) (by rw [List.map_cons, List.map_cons, hro]; rfl) (by rintro _ rfl; exact ok_plain rfl) ?_
    rintro r rfl
    simp -implicitDefEqProofs only [evr, id, seval, ent0, ent1, ent2, ent3, ent4, Nat.sub_zero, evn]
    refine hk _ ?_
    (repeat refine Sat.seq ?_)
    refine Sat.cond_b rfl (fun h3 => ?_) (fun h3 => ?_)
    · simp only [decide_eq_true_eq] at h3
      (refine Sat.region_k fun k hk => ?_; simp -implicitDefEqProofs only [evr, id, seval, ent0, ent1, ent2, ent3, ent4, Nat.sub_zero, evn]; refine hk _ ?_; clear hk k; try show Sat _ _ _ _ _)
      have e4 : IntKind.i64.wrap ((((i + j) / 2 : Nat) : Int) + 1) = (((i + j) / 2 + 1 : Nat) : Int) := by rw [w64 (by omega)]; omega
      simp only [e4, thenK, blockK]
      refine ⟨((i + j) / 2 + 1, j), ⟨by simp only; omega, hjn, hpj, fun _ => by simpa using h3⟩, by simp only; omega, ?_⟩
      simp -implicitDefEqProofs only [evr, id, seval, ent0, ent1, ent2, ent3, ent4, Nat.sub_zero, evl, evn]
    · simp only [decide_eq_false_iff_not, Int.not_lt] at h3
      (refine Sat.region_k fun k hk => ?_; simp -implicitDefEqProofs only [evr, id, seval, ent0, ent1, ent2, ent3, ent4, Nat.sub_zero, evn]; refine hk _ ?_; clear hk k; try show Sat _ _ _ _ _)
      simp only [thenK, blockK]
      refine ⟨(i, (i + j) / 2), ⟨by simp only; omega, by simp only; omega, fun _ => h3, hpi⟩, by simp only; omega, ?_⟩
      simp -implicitDefEqProofs only [evr, id, seval, ent0, ent1, ent2, ent3, ent4, Nat.sub_zero, evl, evn]
  · refine Sat.exit ?_
    simp only [thenK, blockK, reduceIte]
    simp only [decide_eq_false_iff_not] at h2
    obtain rfl : i = j := by omega
    (repeat refine Sat.seq ?_)
    refine Sat.region_k (fun k hk => ?_)
    simp -implicitDefEqProofs only [evr, id, seval, ent0, ent1, ent2, ent3, ent4, Nat.sub_zero, evn]
    refine ⟨fun h5 => ⟨by omega, ?_⟩, fun h5 => ?_⟩
    · refine wcall_plain (hp i (by omega)) (by rw [List.map_cons, List.map_cons, hro]; rfl) (by rintro _ rfl; exact ok_plain rfl) ?_
      rintro r rfl
      simp -implicitDefEqProofs only [evr, id, seval, ent0, ent1, ent2, ent3, ent4, Nat.sub_zero, evn]
      refine hk _ ?_
      refine Sat.ret ?_
      simp only [Tryz.results73, evr, id, seval, List.append_nil, Int.toNat_zero, Nat.sub_self, ent0, ent1, ent2, ent3, ent4, Nat.sub_zero]
      exact ⟨i, _, hjn, hpj, hpi, rfl⟩
    · refine hk _ ?_
      refine Sat.ret ?_
      simp only [Tryz.results73, evr, id, seval, List.append_nil, Int.toNat_zero, Nat.sub_self, ent0, ent1, ent2, ent3, ent4, Nat.sub_zero]
      exact ⟨i, _, hjn, hpj, hpi, rfl⟩
set_option maxRecDepth 100000 in
theorem placeC (F : Frm) (ad : Option Addr) (cap : Nat) (es : List Ent) (hn : es.length ≤ 1000000) (q : Prf) (t : Int) :
    Contract F Tryz.prog 46 [regS ad cap es, prS q, .i .i64 t] (fun r => ∃ j : Nat, j ≤ es.length ∧ (j < es.length → 0 ≤ plc q t (es.getD j default)) ∧ (0 < j → plc q t (es.getD (j - 1) default) < 0) ∧ r = .i .i64 j) := by
  refine contract_of Tryz.func46 rfl (by kernel_rfl) ?_
  simp only [Tryz.ntmps46, argEnv, regS, prS, prC]
  (repeat refine Sat.seq ?_)
  (refine Sat.region_k fun k hk => ?_; simp -implicitDefEqProofs only [evr, id, seval, ent0, ent1, ent2, ent3, ent4, Nat.sub_zero, evn])
  intro b1 b2
  (refine hk _ ?_; clear hk k; try show Sat _ _ _ _ _)
  (repeat refine Sat.seq ?_)
  (refine Sat.region_k fun k hk => ?_; simp -implicitDefEqProofs only [evr, id, seval, ent0, ent1, ent2, ent3, ent4, Nat.sub_zero, evn])
  refine wcall_plain (bsearchC F ad cap es (by omega) t 74 1 (fun j => roPtr [Own.box b1 25 [SV.sl ad es.length cap 5 (entRd es)], Own.box b2 29 [SV.i IntKind.u32 ↑q.addr, SV.i IntKind.i64 q.len]] ([SV.op 1 b2 0].getD j default)) (plc q t) (fun i hi => ?_) (fun own => ?_)) ?_ ?_ ?_
  · have h9 := placeFnC F (es.getD i default) t q ⟨b2, 0, none⟩
    simp -implicitDefEqProofs only [evr, id, seval, ent0, ent1, ent2, ent3, ent4, Nat.sub_zero, evn]
    exact h9
  · simp -implicitDefEqProofs only [evr, id, seval, ent0, ent1, ent2, ent3, ent4, Nat.sub_zero, evn]
  · simp -implicitDefEqProofs only [evr, id, seval, ent0, ent1, ent2, ent3, ent4, Nat.sub_zero, evn]
  · rintro _ ⟨j, b, h1, h2, h3, rfl⟩
    exact ok_tupL rfl
  · rintro _ ⟨j, b, h1, h2, h3, rfl⟩
    simp -implicitDefEqProofs only [evr, id, seval, ent0, ent1, ent2, ent3, ent4, Nat.sub_zero, evn]
    (refine hk _ ?_; clear hk k; try show Sat _ _ _ _ _)
    (repeat refine Sat.seq ?_)
    (refine Sat.region_k fun k hk => ?_; simp -implicitDefEqProofs only [evr, id, seval, ent0, ent1, ent2, ent3, ent4, Nat.sub_zero, evn]; refine hk _ ?_; clear hk k; try show Sat _ _ _ _ _)
    refine Sat.ret ?_
    simp only [Tryz.results46, evr, id, seval, List.append_nil, Int.toNat_zero, Nat.sub_self, ent0, ent1, ent2, ent3, ent4, Nat.sub_zero]
    exact ⟨j, h1, h2, h3, rfl⟩
end Go.Proofs.YtepkbbmjbbnhnaaGreatDoor
