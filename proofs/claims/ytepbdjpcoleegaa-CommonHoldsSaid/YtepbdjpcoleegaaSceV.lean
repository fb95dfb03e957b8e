import Derived.Test.YtepbdjpcoleegaaOraA

/- Scenes, by the evaluator: dice.Proto, dice.Trace, dice.scene. -/
set_option linter.unusedSimpArgs false
set_option linter.unusedVariables false
namespace Go.Proofs.Ytepbdjpcoleegaa
open Eng
set_option maxRecDepth 100000 in
theorem protoC (cb : Nat) : Contract (Frm.codes cb) Try.prog 61 [ptr cb] (fun r => ∃ x : Int, (x = 17 ∨ x = 1 ∨ x = 6) ∧ r = .i .i64 x) := by
 refine contract_of Try.func61 rfl (by kernel_rfl) ?_
 simp only [Try.ntmps61, argEnv, ptr]
 (repeat refine Sat.seq ?_)
 (refine Sat.region_k fun k hk => ?_; simp -implicitDefEqProofs only [evr, id, seval, ptr, evn]; refine hk _ ?_; clear hk k; try show Sat _ _ _ _ _)
 (repeat refine Sat.seq ?_)
 (refine Sat.region_k fun k hk => ?_; simp -implicitDefEqProofs only [evr, id, seval, ptr, evn])
 intro blk
 refine wcall_plain (pickI cb blk [17, 1, 6] (fun x => x = 17 ∨ x = 1 ∨ x = 6) (by decide) (by decide) (by simp)) (by simp -implicitDefEqProofs only [evr, id, seval, ptr, evn]) plain_pick ?_
 rintro r ⟨x, rfl, hx⟩
 simp -implicitDefEqProofs only [evr, id, seval, ptr, evn]
 (refine hk _ ?_; clear hk k; try show Sat _ _ _ _ _)
 refine Sat.ret ?_
 simp only [Try.results61, evr, id, reduceCtorEq, reduceIte, Nat.reduceMul, Nat.reduceAdd, Nat.reduceLT, Nat.reduceLeDiff, Nat.reduceEqDiff, Int.reduceLT, Int.reduceBEq, Int.reduceBNe, Nat.reduceBEq, ptr, List.append_nil, Int.toNat_zero, Nat.sub_self, Int.reduceToNat]
 exact ⟨_, hx, rfl⟩
def trS (v d p : Int) : SV := .agg 3 fun j => [SV.i .i64 v, .i .u32 d, .i .i64 p].getD j default
theorem trS_ok (v d p : Int) (R : Nat → Prop) (w : World) : (trS v d p).ok R w := by
 intro j hj
 rcases (show j = 0 ∨ j = 1 ∨ j = 2 by omega) with rfl | rfl | rfl <;> trivial
set_option maxRecDepth 100000 in
theorem traceC (cb : Nat) : Contract (Frm.codes cb) Try.prog 46 [ptr cb] (fun r => ∃ v d p : Int, (0 ≤ v ∧ v ≤ 1) ∧ (InA d ∧ d ≠ 0) ∧ (p = 17 ∨ p = 1 ∨ p = 6) ∧ r = trS v d p) := by
 refine contract_of Try.func46 rfl (by kernel_rfl) ?_
 simp only [Try.ntmps46, argEnv, ptr]
 (repeat refine Sat.seq ?_)
 (refine Sat.region_k fun k hk => ?_; simp -implicitDefEqProofs only [evr, id, seval, ptr, evn])
 intro blk
 (refine hk _ ?_; clear hk k; try show Sat _ _ _ _ _)
 (repeat refine Sat.seq ?_)
 (refine Sat.region_k fun k hk => ?_; simp -implicitDefEqProofs only [evr, id, seval, ptr, evn])
 refine wcall_plain (nextC cb 2 (by omega) (by omega)) rfl (by rintro _ ⟨x, rfl, _⟩; exact ok_plain rfl) ?_
 rintro r ⟨v, rfl, hv0, hv1⟩
 simp -implicitDefEqProofs only [evr, id, seval, ptr, evn]
 refine wcall_plain (nextC cb 3 (by omega) (by omega)) rfl (by rintro _ ⟨x, rfl, _⟩; exact ok_plain rfl) ?_
 rintro r ⟨d, rfl, hd0, hd1⟩
 simp -implicitDefEqProofs only [evr, id, seval, ptr, evn]
 refine wcall_plain (protoC cb) rfl (by rintro _ ⟨x, _, rfl⟩; exact ok_plain rfl) ?_
 rintro r ⟨p, hp, rfl⟩
 simp -implicitDefEqProofs only [evr, id, seval, ptr, evn]
 (refine hk _ ?_; clear hk k; try show Sat _ _ _ _ _)
 refine Sat.ret ?_
 simp only [Try.results46, evr, id, reduceCtorEq, reduceIte, Nat.reduceMul, Nat.reduceAdd, Nat.reduceLT, Nat.reduceLeDiff, Nat.reduceEqDiff, Int.reduceLT, Int.reduceBEq, Int.reduceBNe, Nat.reduceBEq, ptr, List.append_nil, Int.toNat_zero, Nat.sub_self, Int.reduceToNat]
 refine ⟨v, _, p, by omega, ⟨wrapA _, ?_⟩, hp, rfl⟩
 have ewd : IntKind.i64.wrap (167774464 + d) = 167774464 + d := w64 (by omega)
 rw [ewd, IntKind.wrap_u32]
 omega
structure Net where
 v : Int
 d : Int
 pr : Int
 a : Option Addr
 cap : Nat
 l : List PthP
 last : Int
instance : Inhabited Net := ⟨⟨0, 0, 0, none, 0, [], 0⟩⟩
def Net.cs (n : Net) : List SV := [.i .i64 n.v, .i .u32 n.d, .i .i64 n.pr, .sl n.a n.l.length n.cap 1 (psRd n.l), .i .u32 n.last]
structure NetOk (n : Net) : Prop where
 v : 0 ≤ n.v ∧ n.v ≤ 1
 d : InA n.d
 last : InA n.last
 some : 1 ≤ n.l.length ∧ n.l.length ≤ 3
 ps : PsOk 3 n.l
 d0 : n.d ≠ 0
 pr : n.pr = 17 ∨ n.pr = 1 ∨ n.pr = 6
set_option maxRecDepth 100000 in
theorem sceneC (cb : Nat) : Contract (Frm.codes cb) Try.prog 25 [ptr cb] (fun r => ∃ (n : Net) (f : Nat → SV), NetOk n ∧ r = .agg 5 f ∧ ∀ j, j < 5 → f j = n.cs.getD j default) := by
 refine contract_of Try.func25 rfl (by kernel_rfl) ?_
 simp only [Try.ntmps25, argEnv, ptr]
 (repeat refine Sat.seq ?_)
 (refine Sat.region_k fun k hk => ?_; simp -implicitDefEqProofs only [evr, id, seval, ptr, evn])
 intro b2
 (refine hk _ ?_; clear hk k; try show Sat _ _ _ _ _)
 (repeat refine Sat.seq ?_)
 (refine Sat.region_k fun k hk => ?_; simp -implicitDefEqProofs only [evr, id, seval, ptr, evn])
 refine wcall_plain (traceC cb) rfl (by rintro _ ⟨v, d, p, _, _, _, rfl⟩; exact trS_ok _ _ _) ?_
 rintro r ⟨v, d, p, hv, ⟨hd, hdn⟩, hpr, rfl⟩
 simp only [trS, evr, id, reduceCtorEq, reduceIte, Nat.reduceMul, Nat.reduceAdd, Nat.reduceLT, Nat.reduceLeDiff, Nat.reduceEqDiff, Int.reduceLT, Int.reduceBEq, Int.reduceBNe, Nat.reduceBEq, ptr, List.append_nil, Int.toNat_zero, Nat.sub_self, Int.reduceToNat]
 intro b3
 (refine hk _ ?_; clear hk k; try show Sat _ _ _ _ _)
 (repeat refine Sat.seq ?_)
 (refine Sat.region_k fun k hk => ?_; simp -implicitDefEqProofs only [evr, id, seval, ptr, evn])
 (refine hk _ ?_; clear hk k; try show Sat _ _ _ _ _)
 (repeat refine Sat.seq ?_)
 (refine Sat.region_k fun k hk => ?_; simp -implicitDefEqProofs only [evr, id, seval, ptr, evn])
 refine wcall_plain (boolC cb 4 (by decide) (by decide)) rfl plain_bool ?_
 rintro r ⟨q, rfl⟩
 simp -implicitDefEqProofs only [evr, id, seval, ptr, evn]
 (refine hk _ ?_; clear hk k; try show Sat _ _ _ _ _)
 (repeat refine Sat.seq ?_)
 refine Sat.atF (ι := Int) (fun u => ⟨74, [(3, .op 1 b3 0), (2, .op 0 b2 0), (0, .v (.pointer (some ⟨cb, 0, none⟩)))], [Own.box b2 67 [.i .i64 0, .i .u32 0, .i .i64 0, .sl none 0 0 0 fun _ _ => .v undef, .i .u32 0], .box b3 67 [.i .i64 v, .i .u32 d, .i .i64 p, .sl none 0 0 0 fun _ _ => .v undef, .i .u32 u]]⟩) InA ?_ ?_
 ·refine Sat.cond_b rfl (fun h => ?_) (fun h => ?_)
  ·(refine Sat.region_k fun k hk => ?_; simp -implicitDefEqProofs only [evr, id, seval, ptr, evn])
   refine wcall_plain (addrC cb) rfl plain_addrC ?_
   rintro r ⟨u, hu, rfl⟩
   simp -implicitDefEqProofs only [evr, id, seval, ptr, evn]
   refine hk _ ?_
   simp only [thenK]
   refine ⟨u, hu, ?_⟩
   simp -implicitDefEqProofs only [evr, id, seval, ptr, evl, evn]
  ·refine Sat.skip ?_
   simp only [thenK]
   refine ⟨d, hd, ?_⟩
   simp -implicitDefEqProofs only [evr, id, seval, ptr, evl, evn]
 intro u hu
 simp only [thenK]
 (repeat refine Sat.seq ?_)
 (refine Sat.region_k fun k hk => ?_; simp -implicitDefEqProofs only [evr, id, seval, ptr, evn])
 refine wcall_plain (nextC cb 3 (by omega) (by omega)) rfl (by rintro _ ⟨x, rfl, _⟩; exact ok_plain rfl) ?_
 rintro r ⟨x, rfl, hx0, hx1⟩
 obtain ⟨lg, hlg⟩ : ∃ lg : Nat, (lg : Int) = 1 + x := ⟨(1 + x).toNat, by omega⟩
 have hlg3 : lg ≤ 3 := by omega
 have e1 : IntKind.i64.wrap (1 + x) = (lg : Int) := by rw [w64 (by omega), hlg]
 simp -implicitDefEqProofs only [evr, id, seval, ptr, e1, evn]
 (refine hk _ ?_; clear hk k; try show Sat _ _ _ _ _)
 (repeat refine Sat.seq ?_)
 (refine Sat.region_k fun k hk => ?_; simp -implicitDefEqProofs only [evr, id, seval, ptr, evn]; refine hk _ ?_; clear hk k; try show Sat _ _ _ _ _)
 refine Sat.adoptBox 1 3 71 1 (psRd []) rfl rfl ?_
 simp -implicitDefEqProofs only [evr, id, seval, ptr, evn]
 (repeat refine Sat.seq ?_)
 refine Sat.block ?_
 refine Sat.loop (ι := Nat × Option Addr × Nat × List PthP) (fun z => ⟨74, [(5, .i .i64 z.1), (4, .i .i64 lg), (3, .op 1 b3 0), (2, .op 0 b2 0), (0, .v (.pointer (some ⟨cb, 0, none⟩)))], [Own.box b2 67 [.i .i64 0, .i .u32 0, .i .i64 0, .sl none 0 0 0 fun _ _ => .v undef, .i .u32 0], .box b3 67 [.i .i64 v, .i .u32 d, .i .i64 p, .os 2 z.2.1 z.2.2.2.length z.2.2.1, .i .u32 u], .row z.2.1 71 z.2.2.2.length z.2.2.1 1 (psRd z.2.2.2)]⟩)
  (fun z => z.2.2.2.length = z.1 ∧ z.1 ≤ 3 ∧ PsOk 3 z.2.2.2) (fun z => 3 - z.1) (0, none, 0, []) ⟨rfl, by simp, fun q h => by cases h⟩ (by simp -implicitDefEqProofs only [evr, id, seval, ptr, evl, evn]; first | rfl | trace_state) ?_
 rintro ⟨f, a, c, l⟩ ⟨hfl, hf3, hl⟩
 simp only at hfl hf3 hl ⊢
 (repeat refine Sat.seq ?_)
 (refine Sat.region_k fun k hk => ?_; simp -implicitDefEqProofs only [evr, id, seval, ptr, evn])
 refine wcall_plain (nextC cb 3 (by omega) (by omega)) rfl (by rintro _ ⟨x, rfl, _⟩; exact ok_plain rfl) ?_
 rintro r ⟨x2, rfl, hy0, hy1⟩
 have e2 : IntKind.i64.wrap (1 + x2) = 1 + x2 := w64 (by omega)
 simp -implicitDefEqProofs only [evr, id, seval, ptr, e2, evn]
 (refine hk _ ?_; clear hk k; try show Sat _ _ _ _ _)
 (repeat refine Sat.seq ?_)
 refine Sat.cond_b rfl (fun h => ?_) (fun h => ?_)
 ·have h1 : f < 3 := by simp only [decide_eq_true_eq] at h; omega
  have e3 : IntKind.i64.wrap ((f : Int) + 1) = ((f + 1 : Nat) : Int) := by rw [w64 (by omega)]; omega
  refine Sat.skip ?_
  simp only [thenK]
  (repeat refine Sat.seq ?_)
  refine Sat.block ?_
  (repeat refine Sat.seq ?_)
  (refine Sat.region_k fun k hk => ?_; simp -implicitDefEqProofs only [evr, id, seval, ptr, evn]; refine hk _ ?_; clear hk k; try show Sat _ _ _ _ _)
  (repeat refine Sat.seq ?_)
  (refine Sat.region_k fun k hk => ?_; simp -implicitDefEqProofs only [evr, id, seval, ptr, evn]; refine hk _ ?_; clear hk k; try show Sat _ _ _ _ _)
  refine Sat.adopt 6 34 1 (adRd []) rfl ?_
  (repeat refine Sat.seq ?_)
  refine Sat.block ?_
  refine Sat.loop (ι := Nat × Option Addr × Nat × List Int) (fun z => ⟨74, [(7, .i .i64 z.1), (6, .os 3 z.2.1 z.2.2.2.length z.2.2.1), (5, .i .i64 f), (4, .i .i64 lg), (3, .op 1 b3 0), (2, .op 0 b2 0), (0, .v (.pointer (some ⟨cb, 0, none⟩)))], [Own.box b2 67 [.i .i64 0, .i .u32 0, .i .i64 0, .sl none 0 0 0 fun _ _ => .v undef, .i .u32 0], .box b3 67 [.i .i64 v, .i .u32 d, .i .i64 p, .os 2 a l.length c, .i .u32 u], .row a 71 l.length c 1 (psRd l), .row z.2.1 34 z.2.2.2.length z.2.2.1 1 (adRd z.2.2.2)]⟩)
   (fun z => z.2.2.2.length = z.1 ∧ z.1 ≤ lg ∧ ∀ x ∈ z.2.2.2, InA x) (fun z => lg - z.1) (0, none, 0, []) ⟨rfl, by simp, fun q h => by cases h⟩ (by simp -implicitDefEqProofs only [evr, id, seval, ptr, evl, evn]; first | rfl | trace_state) ?_
  rintro ⟨i, pa, pc, pl⟩ ⟨hpl, hi3, hpi⟩
  simp only at hpl hi3 hpi ⊢
  (repeat refine Sat.seq ?_)
  (refine Sat.region_k fun k hk => ?_; simp -implicitDefEqProofs only [evr, id, seval, ptr, evn]; refine hk _ ?_; clear hk k; try show Sat _ _ _ _ _)
  (repeat refine Sat.seq ?_)
  refine Sat.cond_b rfl (fun h => ?_) (fun h => ?_)
  ·have h2 : i < lg := by simp only [decide_eq_true_eq] at h; omega
   have e4 : IntKind.i64.wrap ((i : Int) + 1) = ((i + 1 : Nat) : Int) := by rw [w64 (by omega)]; omega
   refine Sat.skip ?_
   simp only [thenK]
   (repeat refine Sat.seq ?_)
   refine Sat.block ?_
   (repeat refine Sat.seq ?_)
   (refine Sat.region_k fun k hk => ?_; simp -implicitDefEqProofs only [evr, id, seval, ptr, evn])
   refine wcall_plain (addrC cb) rfl plain_addrC ?_
   rintro r ⟨y, hy, rfl⟩
   simp -implicitDefEqProofs only [evr, id, seval, ptr, evn]
   (refine hk _ ?_; clear hk k; try show Sat _ _ _ _ _)
   (repeat refine Sat.seq ?_)
   (refine Sat.region_k fun k hk => ?_; simp -implicitDefEqProofs only [evr, id, seval, ptr, evn])
   refine wcall_plain (boolC cb 6 (by decide) (by decide)) rfl plain_bool ?_
   rintro r ⟨q6, rfl⟩
   simp -implicitDefEqProofs only [evr, id, seval, ptr, evn]
   (refine hk _ ?_; clear hk k; try show Sat _ _ _ _ _)
   (repeat refine Sat.seq ?_)
   refine Sat.atF (ι := Int) (fun w => ⟨74, [(8, .i .u32 w), (7, .i .i64 i), (6, .os 3 pa pl.length pc), (5, .i .i64 f), (4, .i .i64 lg), (3, .op 1 b3 0), (2, .op 0 b2 0), (0, .v (.pointer (some ⟨cb, 0, none⟩)))], [Own.box b2 67 [.i .i64 0, .i .u32 0, .i .i64 0, .sl none 0 0 0 fun _ _ => .v undef, .i .u32 0], .box b3 67 [.i .i64 v, .i .u32 d, .i .i64 p, .os 2 a l.length c, .i .u32 u], .row a 71 l.length c 1 (psRd l), .row pa 34 pl.length pc 1 (adRd pl)]⟩) InA ?_ ?_
   ·refine Sat.cond_b rfl (fun h => ?_) (fun h => ?_)
    ·(refine Sat.region_k fun k hk => ?_; simp -implicitDefEqProofs only [evr, id, seval, ptr, evn])
     refine hk _ ?_
     simp only [thenK]
     refine ⟨0, ⟨by omega, by omega⟩, ?_⟩
     simp -implicitDefEqProofs only [evr, id, seval, ptr, evl, evn]
    ·refine Sat.skip ?_
     simp only [thenK]
     refine ⟨y, hy, ?_⟩
     simp -implicitDefEqProofs only [evr, id, seval, ptr, evl, evn]
   intro w hw
   simp only [thenK]
   (repeat refine Sat.seq ?_)
   obtain ⟨q, hq⟩ : ∃ q, q = l.getD 0 default := ⟨_, rfl⟩
   have hqs : psRd l 0 0 = .sl q.a q.p.length q.cap 1 (adRd q.p) := by rw [hq]; rfl
   refine Sat.atF (ι := Bool) (fun b => ⟨74, [(55, .b b), (8, .i .u32 w), (7, .i .i64 i), (6, .os 3 pa pl.length pc), (5, .i .i64 f), (4, .i .i64 lg), (3, .op 1 b3 0), (2, .op 0 b2 0), (0, .v (.pointer (some ⟨cb, 0, none⟩)))], [Own.box b2 67 [.i .i64 0, .i .u32 0, .i .i64 0, .sl none 0 0 0 fun _ _ => .v undef, .i .u32 0], .box b3 67 [.i .i64 v, .i .u32 d, .i .i64 p, .os 2 a l.length c, .i .u32 u], .row a 71 l.length c 1 (psRd l), .row pa 34 pl.length pc 1 (adRd pl)]⟩) (fun b => b = true → 0 < f ∧ i < q.p.length) ?_ ?_
   ·(refine Sat.region_k fun k hk => ?_; simp -implicitDefEqProofs only [evr, id, reduceCtorEq, reduceIte, Nat.reduceMul, Nat.reduceAdd, Nat.reduceLT, Nat.reduceLeDiff, Nat.reduceEqDiff, Int.reduceLT, Int.reduceBEq, Int.reduceBNe, Nat.reduceBEq, ptr, Int.reduceToNat, evn])
    simp -implicitDefEqProofs only [evr, id, reduceCtorEq, reduceIte, Nat.reduceMul, Nat.reduceAdd, Nat.reduceLT, Nat.reduceLeDiff, Nat.reduceEqDiff, Int.reduceLT, Int.reduceBEq, Int.reduceBNe, Nat.reduceBEq, ptr, Int.reduceToNat, hqs, evn]
    refine ⟨fun g1 => ⟨⟨by omega, by omega⟩, by omega, fun g2 => ?_, fun g2 => hk _ ?_⟩, fun g1 => hk _ ?_⟩
    ·refine wcall_plain (boolC cb 3 (by decide) (by decide)) rfl plain_bool ?_
     rintro r ⟨q7, rfl⟩
     simp -implicitDefEqProofs only [evr, id, seval, ptr, evn]
     refine hk _ ?_
     simp only [thenK]
     refine ⟨!q7, fun _ => ⟨by omega, by omega⟩, ?_⟩
     simp -implicitDefEqProofs only [evr, id, seval, ptr, evl, evn]
    ·simp only [thenK]
     refine ⟨false, fun h => (by cases h), ?_⟩
     simp -implicitDefEqProofs only [evr, id, seval, ptr, evl, evn]
    ·simp only [thenK]
     refine ⟨false, fun h => (by cases h), ?_⟩
     simp -implicitDefEqProofs only [evr, id, seval, ptr, evl, evn]
   intro b hb
   simp only [thenK]
   (repeat refine Sat.seq ?_)
   refine Sat.atF (ι := Int) (fun w2 => ⟨74, [(8, .i .u32 w2), (7, .i .i64 i), (6, .os 3 pa pl.length pc), (5, .i .i64 f), (4, .i .i64 lg), (3, .op 1 b3 0), (2, .op 0 b2 0), (0, .v (.pointer (some ⟨cb, 0, none⟩)))], [Own.box b2 67 [.i .i64 0, .i .u32 0, .i .i64 0, .sl none 0 0 0 fun _ _ => .v undef, .i .u32 0], .box b3 67 [.i .i64 v, .i .u32 d, .i .i64 p, .os 2 a l.length c, .i .u32 u], .row a 71 l.length c 1 (psRd l), .row pa 34 pl.length pc 1 (adRd pl)]⟩) InA ?_ ?_
   ·refine Sat.cond_b rfl (fun h => ?_) (fun h => ?_)
    ·obtain ⟨g1, g2⟩ := hb h
     (refine Sat.region_k fun k hk => ?_; simp -implicitDefEqProofs only [evr, id, reduceCtorEq, reduceIte, Nat.reduceMul, Nat.reduceAdd, Nat.reduceLT, Nat.reduceLeDiff, Nat.reduceEqDiff, Int.reduceLT, Int.reduceBEq, Int.reduceBNe, Nat.reduceBEq, ptr, Int.reduceToNat, evn])
     simp -implicitDefEqProofs only [evr, id, reduceCtorEq, reduceIte, Nat.reduceMul, Nat.reduceAdd, Nat.reduceLT, Nat.reduceLeDiff, Nat.reduceEqDiff, Int.reduceLT, Int.reduceBEq, Int.reduceBNe, Nat.reduceBEq, ptr, Int.reduceToNat, hqs, evn]
     refine ⟨⟨by omega, by omega⟩, by omega, by omega, ?_⟩
     refine hk _ ?_
     simp only [thenK]
     refine ⟨q.p.getD i 0, ?_, ?_⟩
     ·exact (hl q (by rw [hq]; exact getD_mem (by omega))).2 _ (getD_mem g2)
     ·simp -implicitDefEqProofs only [evr, id, seval, ptr, evl, evn]
      rfl
    ·refine Sat.skip ?_
     simp only [thenK]
     refine ⟨w, hw, ?_⟩
     simp -implicitDefEqProofs only [evr, id, seval, ptr, evl, evn]
   intro w2 hw2
   simp only [thenK, blockK]
   (repeat refine Sat.seq ?_)
   (refine Sat.region_k fun k hk => ?_; simp -implicitDefEqProofs only [evr, id, seval, ptr, evn])
   intro b9
   refine ⟨⟨by unfold maxLen; omega, by omega⟩, fun a2 cap2 => ?_⟩
   (refine hk _ ?_; clear hk k; try show Sat _ _ _ _ _)
   refine Sat.region_k fun k hk => ?_
   simp -implicitDefEqProofs only [evr, id, seval, ptr, e4, evn]
   refine hk _ ?_
   simp only [thenK, blockK]
   refine ⟨(i + 1, a2, cap2, pl ++ [w2]), ⟨by simp; omega, by simp only; omega, fun x hx => ?_⟩, by simp only; omega, ?_⟩
   ·rcases List.mem_append.1 hx with h | h
    ·exact hpi x h
    ·simp only [List.mem_singleton] at h; subst h; exact hw2
   ·simp only [List.length_append, List.length_singleton]
    simp -implicitDefEqProofs only [evr, id, seval, ptr, evl, evn]
    exact ad_app
  ·refine Sat.exit ?_
   simp only [thenK, blockK, reduceIte]
   refine Sat.settle2 6 rfl rfl ?_
   simp -implicitDefEqProofs only [evr, id, seval, ptr, evn]
   (refine Sat.region_k fun k hk => ?_; simp -implicitDefEqProofs only [evr, id, seval, ptr, evn])
   intro b9
   refine ⟨⟨by unfold maxLen; omega, by omega⟩, fun a2 cap2 => ?_⟩
   (refine hk _ ?_; clear hk k; try show Sat _ _ _ _ _)
   refine Sat.region_k fun k hk => ?_
   simp -implicitDefEqProofs only [evr, id, seval, ptr, e3, evn]
   refine hk _ ?_
   simp only [thenK, blockK]
   refine ⟨(f + 1, a2, cap2, l ++ [⟨pa, pc, pl⟩]), ⟨by simp; omega, by simp only; omega, fun x hx => ?_⟩, by simp only; omega, ?_⟩
   ·rcases List.mem_append.1 hx with h | h
    ·exact hl x h
    ·simp only [List.mem_singleton] at h; subst h; exact ⟨by simp only; omega, hpi⟩
   ·simp only [List.length_append, List.length_singleton]
    simp -implicitDefEqProofs only [evr, id, seval, ptr, evl, evn]
    exact ps_app rfl
 ·refine Sat.exit ?_
  simp only [thenK, blockK, reduceIte]
  have hf0 : 0 < f := by
   simp only [decide_eq_false_iff_not] at h
   omega
  (repeat refine Sat.seq ?_)
  (refine Sat.region_k fun k hk => ?_; simp -implicitDefEqProofs only [evr, id, seval, ptr, evn])
  (refine hk _ ?_; clear hk k; try show Sat _ _ _ _ _)
  refine Sat.ret ?_
  simp only [Try.results25, evr, id, reduceCtorEq, reduceIte, Nat.reduceMul, Nat.reduceAdd, Nat.reduceLT, Nat.reduceLeDiff, Nat.reduceEqDiff, Int.reduceLT, Int.reduceBEq, Int.reduceBNe, Nat.reduceBEq, ptr, List.append_nil, Int.toNat_zero, Nat.sub_self, Int.reduceToNat]
  refine ⟨⟨v, d, p, a, c, l, u⟩, _, ⟨hv, hd, hu, ⟨by simp only; omega, by simp only; omega⟩, hl, hdn, hpr⟩, rfl, fun j hj => ?_⟩
  rcases (show j = 0 ∨ j = 1 ∨ j = 2 ∨ j = 3 ∨ j = 4 by omega) with rfl | rfl | rfl | rfl | rfl <;> simp -implicitDefEqProofs only [evr, id, seval, ptr, Net.cs, evn]
end Go.Proofs.Ytepbdjpcoleegaa
