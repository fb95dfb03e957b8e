/- Where results contradict, by the evaluator: episode.clash. -/
import Derived.Test.YtkpmihaaijiihaaGreatPcmE
set_option linter.unusedSimpArgs false
set_option linter.unusedVariables false
namespace Go.Proofs.YtkpmihaaijiihaaGreat
open Go.Sort Eng
def ClashAt (g : Nat → Res) (n k : Nat) : Prop := k ≤ n ∧ Seg g 0 k ∧ (k < n → Bad g 0 k)
set_option maxRecDepth 100000 in
theorem clashC (F : Frm) (a : Option Addr) (cap : Nat) (d : Array Res) (hd : d.size ≤ 1000000000) :
    Contract F Tryz.prog 43 [.sl a d.size cap 17 (resRd d)] (fun r => ∃ k : Nat, ClashAt (fun i => d[i]!) d.size k ∧ r = .i .i64 k) := by
  refine contract_of Tryz.func43 rfl (by kernel_rfl) ?_
  simp only [Tryz.ntmps43, argEnv]
  (repeat refine Sat.seq ?_)
  (refine Sat.region_k fun k hk => ?_; simp -implicitDefEqProofs only [evr, id, seval, res_one, resRow, res_ro, evn]; refine hk _ ?_; clear hk k; try show Sat _ _ _ _ _)
  (repeat refine Sat.seq ?_)
  (refine Sat.region_k fun k hk => ?_; simp -implicitDefEqProofs only [evr, id, seval, res_one, resRow, res_ro, evn])
  intro b1
  (refine hk _ ?_; clear hk k; try show Sat _ _ _ _ _)
  (repeat refine Sat.seq ?_)
  (refine Sat.region_k fun k hk => ?_; simp -implicitDefEqProofs only [evr, id, seval, res_one, resRow, res_ro, evn]; refine hk _ ?_; clear hk k; try show Sat _ _ _ _ _)
  (repeat refine Sat.seq ?_)
  refine Sat.block ?_
  refine Sat.loop (ι := Nat × (List Int → Option Int)) (fun z => ⟨48, [(13, .i .i64 z.1), (12, .i .i64 d.size), (11, .sl a d.size cap 17 (resRd d)), (3, .mp 0 b1), (2, .i .i64 0), (0, .sl a d.size cap 17 (resRd d))], [.mp b1 false [.i64, .u32, .i64, .i64, .i64] .u32 z.2]⟩)
    (fun z => z.1 ≤ d.size ∧ SeenI (fun i => d[i]!) 0 z.1 z.2 ∧ Seg (fun i => d[i]!) 0 z.1) (fun z => d.size - z.1) (0, fun _ => none) ⟨Nat.zero_le _, SeenI.empty _ _, Seg.nil _ _⟩ (by simp -implicitDefEqProofs only [evr, id, reduceCtorEq, reduceIte, Nat.reduceMul, Nat.reduceAdd, Nat.reduceLT, Nat.reduceLeDiff, Nat.reduceEqDiff, Int.reduceLT, Int.reduceBEq, Int.reduceBNe, Nat.reduceBEq, res_one, Int.reduceToNat, resRow, res_ro, evl, evn]; rfl) ?_
  rintro ⟨i, f⟩ ⟨hi, hs, hseg⟩
  simp only at hi hs hseg ⊢
  (repeat refine Sat.seq ?_)
  (refine Sat.region_k fun k hk => ?_; simp -implicitDefEqProofs only [evr, id, seval, res_one, resRow, res_ro, evn]; refine hk _ ?_; clear hk k; try show Sat _ _ _ _ _)
  (repeat refine Sat.seq ?_)
  refine Sat.cond_b rfl (fun h => ?_) (fun h => ?_)
  · have h1 : i < d.size := by simp only [decide_eq_true_eq] at h; omega
    have e2 : IntKind.i64.wrap ((i : Int) + 1) = ((i + 1 : Nat) : Int) := by rw [w64 (by omega)]; omega
    refine Sat.skip ?_
    simp only [thenK]
    (repeat refine Sat.seq ?_)
    refine Sat.block ?_
    (repeat refine Sat.seq ?_)
    (refine Sat.region_k fun k hk => ?_; simp -implicitDefEqProofs only [evr, id, seval, res_one, resRow, res_ro, evn])
    refine ⟨by omega, ?_⟩
    intro b2
    (refine hk _ ?_; clear hk k; try show Sat _ _ _ _ _)
    (repeat refine Sat.seq ?_)
    (refine Sat.region_k fun k hk => ?_; simp -implicitDefEqProofs only [evr, id, seval, res_one, resRow, res_ro, evn])
    refine wcall_plain (placeC F d[i]!) rfl (by rintro _ rfl; exact placeS_ok _) ?_
    rintro r rfl
    simp only [placeS, spotAg, evr, id, reduceCtorEq, reduceIte, Nat.reduceMul, Nat.reduceAdd, Nat.reduceLT, Nat.reduceLeDiff, Nat.reduceEqDiff, Int.reduceLT, Int.reduceBEq, Int.reduceBNe, Nat.reduceBEq, res_one, List.append_nil, Int.toNat_zero, Nat.sub_self, Int.reduceToNat, resRow, res_ro]
    intro b3
    (refine hk _ ?_; clear hk k; try show Sat _ _ _ _ _)
    (repeat refine Sat.seq ?_)
    (refine Sat.region_k fun k hk => ?_; simp -implicitDefEqProofs only [evr, id, seval, res_one, resRow, res_ro, evn]; refine hk _ ?_; clear hk k; try show Sat _ _ _ _ _)
    (repeat refine Sat.seq ?_)
    refine Sat.cond_b rfl (fun h2 => ?_) (fun h2 => ?_)
    · have hp : placedR d[i]! = false := by simpa using h2
      refine Sat.exit ?_
      simp only [blockK, thenK, reduceIte]
      refine Sat.region_k fun k hk => ?_
      simp -implicitDefEqProofs only [evr, id, seval, res_one, resRow, res_ro, e2, evn]
      refine hk _ ?_
      simp only [thenK, blockK]
      have hn := hs.skip hp
      refine ⟨(i + 1, f), ⟨by simp only; omega, hn.1, hseg.snoc hn.2⟩, by simp only; omega, ?_⟩
      simp -implicitDefEqProofs only [evr, id, seval, res_one, resRow, res_ro, evl, evn]
    · have hp : placedR d[i]! = true := by simpa using h2
      refine Sat.skip ?_
      simp only [thenK]
      (repeat refine Sat.seq ?_)
      refine Sat.atF (ι := Option Int) (fun z => ⟨48, [(9, .b z.isSome), (8, .i .u32 (z.getD 0)), (6, .op 2 b3 0), (5, .op 1 b2 0), (4, .i .i64 i), (13, .i .i64 i), (12, .i .i64 d.size), (11, .sl a d.size cap 17 (resRd d)), (3, .mp 0 b1), (2, .i .i64 0), (0, .sl a d.size cap 17 (resRd d))],
        [.mp b1 false [.i64, .u32, .i64, .i64, .i64] .u32 f, .box b2 54 (Res.cs d[i]!), .box b3 79 [.i .i64 (d[i]!).vantage, .i .u32 (d[i]!).dst, .i .i64 (d[i]!).proto, .i .i64 (d[i]!).flow, .i .i64 (d[i]!).ttl]]⟩) (fun z => f (d[i]!).spot = z) ?_ ?_
      · (refine Sat.region_k fun k hk => ?_; simp -implicitDefEqProofs only [evr, id, seval, res_one, resRow, res_ro, evn])
        refine ⟨fun v hv => hk _ ?_, fun hv => hk _ ?_⟩
        · simp only [thenK]
          refine ⟨some v, hv, ?_⟩
          simp only [Option.isSome_some, Option.getD_some]
          simp -implicitDefEqProofs only [evr, id, seval, res_one, resRow, res_ro, evl, evn]
          rfl
        · simp only [thenK]
          refine ⟨none, hv, ?_⟩
          simp only [Option.isSome_none, Option.getD_none]
          simp -implicitDefEqProofs only [evr, id, seval, res_one, resRow, res_ro, evl, evn]
          rfl
      intro z hz
      simp only [thenK, Res.cs]
      (repeat refine Sat.seq ?_)
      refine Sat.at ⟨48, [(38, .b (z.isSome && (z.getD 0 != (d[i]!).from_))), (6, .op 2 b3 0), (5, .op 1 b2 0), (4, .i .i64 i), (13, .i .i64 i), (12, .i .i64 d.size), (11, .sl a d.size cap 17 (resRd d)), (3, .mp 0 b1), (2, .i .i64 0), (0, .sl a d.size cap 17 (resRd d))],
        [.mp b1 false [.i64, .u32, .i64, .i64, .i64] .u32 f, .box b2 54 (Res.cs d[i]!), .box b3 79 [.i .i64 (d[i]!).vantage, .i .u32 (d[i]!).dst, .i .i64 (d[i]!).proto, .i .i64 (d[i]!).flow, .i .i64 (d[i]!).ttl]]⟩ ?_ ?_
      · (refine Sat.region_k fun k hk => ?_; simp -implicitDefEqProofs only [evr, id, seval, res_one, resRow, res_ro, evn])
        refine ⟨fun h3 => hk _ ?_, fun h3 => hk _ ?_⟩
        · simp only [thenK, h3, Bool.true_and, Res.cs]
          simp -implicitDefEqProofs only [evr, id, seval, res_one, resRow, res_ro, evl, evn]
        · simp only [thenK, h3, Bool.false_and, Res.cs]
          simp -implicitDefEqProofs only [evr, id, seval, res_one, resRow, res_ro, evl, evn]
      simp only [thenK, Res.cs]
      (repeat refine Sat.seq ?_)
      refine Sat.cond_b rfl (fun h4 => ?_) (fun h4 => ?_)
      · simp only [Bool.and_eq_true, bne_iff_ne, ne_eq] at h4
        (repeat refine Sat.seq ?_)
        (refine Sat.region_k fun k hk => ?_; simp -implicitDefEqProofs only [evr, id, seval, res_one, resRow, res_ro, evn]; refine hk _ ?_; clear hk k; try show Sat _ _ _ _ _)
        refine Sat.ret ?_
        simp only [Tryz.results43, evr, id, reduceCtorEq, reduceIte, Nat.reduceMul, Nat.reduceAdd, Nat.reduceLT, Nat.reduceLeDiff, Nat.reduceEqDiff, Int.reduceLT, Int.reduceBEq, Int.reduceBNe, Nat.reduceBEq, res_one, List.append_nil, Int.toNat_zero, Nat.sub_self, Int.reduceToNat, resRow, res_ro]
        obtain ⟨v, rfl⟩ := Option.isSome_iff_exists.1 h4.1
        exact ⟨i, ⟨hi, hseg, fun _ => hs.clash hp hz h4.2⟩, rfl⟩
      · refine Sat.skip ?_
        simp only [thenK]
        (refine Sat.region_k fun k hk => ?_; simp -implicitDefEqProofs only [evr, id, seval, res_one, resRow, res_ro, evn])
        (refine hk _ ?_; clear hk k; try show Sat _ _ _ _ _)
        refine Sat.region_k fun k hk => ?_
        simp -implicitDefEqProofs only [evr, id, seval, res_one, resRow, res_ro, e2, evn]
        refine hk _ ?_
        simp only [thenK, blockK]
        have hn := hs.put (Nat.zero_le _) hp (fun x hx => by
          rw [hz] at hx
          subst hx
          simpa using h4)
        refine ⟨(i + 1, fPut f (d[i]!).spot (d[i]!).from_), ⟨by simp only; omega, hn.1, hseg.snoc hn.2⟩, by simp only; omega, ?_⟩
        simp -implicitDefEqProofs only [evr, id, seval, res_one, resRow, res_ro, evl, evn]
        exact fun _ => rfl
  · have h1 : i = d.size := by simp only [decide_eq_false_iff_not] at h; omega
    refine Sat.exit ?_
    simp only [thenK, blockK, reduceIte]
    (repeat refine Sat.seq ?_)
    (refine Sat.region_k fun k hk => ?_; simp -implicitDefEqProofs only [evr, id, seval, res_one, resRow, res_ro, evn]; refine hk _ ?_; clear hk k; try show Sat _ _ _ _ _)
    refine Sat.ret ?_
    simp only [Tryz.results43, evr, id, reduceCtorEq, reduceIte, Nat.reduceMul, Nat.reduceAdd, Nat.reduceLT, Nat.reduceLeDiff, Nat.reduceEqDiff, Int.reduceLT, Int.reduceBEq, Int.reduceBNe, Nat.reduceBEq, res_one, List.append_nil, Int.toNat_zero, Nat.sub_self, Int.reduceToNat, resRow, res_ro]
    exact ⟨d.size, ⟨Nat.le_refl _, h1 ▸ hseg, fun h => absurd h (Nat.lt_irrefl _)⟩, rfl⟩
end Go.Proofs.YtkpmihaaijiihaaGreat
