/- Package fraction: magnitude, From, Mul, Sub, Div, Floor, Ceil: what each gives. -/
import Derived.Test.YtgdbcpljdibliaaGreatDoorAddE
set_option linter.unusedSimpArgs false
set_option linter.unusedVariables false
namespace Go.Proofs.YtgdbcpljdibliaaGreatDoor
open Eng Lmb Go.RowKit
theorem natAbs_pwF {n : Int} (h1 : -9223372036854775808 ≤ n) (h2 : n ≤ 9223372036854775807) : ((n.natAbs : Nat) : Int) < pw 256 := lt_pw (a := 64) (by omega) (by decide)
set_option maxRecDepth 100000 in
theorem fracMagC (F : Frm) (n : Int) (h1 : -9223372036854775808 ≤ n) (h2 : n ≤ 9223372036854775807) : Contract F Tryz.prog 55 [.i .i64 n] (fun r => Nats r n.natAbs) := by
  refine contract_of Tryz.func55 rfl (by kernel_rfl) ?_
  simp only [Tryz.ntmps55, argEnv]
  (repeat refine Sat.seq ?_)
  (refine Sat.region_k fun k hk => ?_; simp -implicitDefEqProofs only [evr, id, reduceCtorEq, reduceIte, Nat.reduceMul, Nat.reduceAdd, Nat.reduceLT, Nat.reduceLeDiff, Nat.reduceEqDiff, Int.reduceLT, Int.reduceBEq, Int.reduceBNe, Nat.reduceBEq, frS, evn]; refine hk _ ?_; clear hk k; try show Sat _ _ _ _ _)
  (repeat refine Sat.seq ?_)
  (refine Sat.region_k fun k hk => ?_; simp -implicitDefEqProofs only [evr, id, reduceCtorEq, reduceIte, Nat.reduceMul, Nat.reduceAdd, Nat.reduceLT, Nat.reduceLeDiff, Nat.reduceEqDiff, Int.reduceLT, Int.reduceBEq, Int.reduceBNe, Nat.reduceBEq, frS, evn]; refine hk _ ?_; clear hk k; try show Sat _ _ _ _ _)
  refine Sat.cond_b rfl (fun h => ?_) (fun h => ?_)
  · have hn : n ≠ -9223372036854775808 := by simpa using h
    have e1 : IntKind.i64.wrap (0 - n) = 0 - n := w64 (by omega)
    have e2 : max n (0 - n) = ((n.natAbs : Nat) : Int) := by omega
    (repeat refine Sat.seq ?_)
    refine Sat.region_k fun k hk => ?_
    simp -implicitDefEqProofs only [evr, id, reduceCtorEq, reduceIte, Nat.reduceMul, Nat.reduceAdd, Nat.reduceLT, Nat.reduceLeDiff, Nat.reduceEqDiff, Int.reduceLT, Int.reduceBEq, Int.reduceBNe, Nat.reduceBEq, frS, e1, e2, evn]
    (refine hk _ ?_; clear hk k; try show Sat _ _ _ _ _)
    (repeat refine Sat.seq ?_)
    (refine Sat.region_k fun k hk => ?_; simp -implicitDefEqProofs only [evr, id, reduceCtorEq, reduceIte, Nat.reduceMul, Nat.reduceAdd, Nat.reduceLT, Nat.reduceLeDiff, Nat.reduceEqDiff, Int.reduceLT, Int.reduceBEq, Int.reduceBNe, Nat.reduceBEq, frS, evn])
    refine wcall_slice (fromC F n.natAbs (by omega)) rfl rfl ?_
    rintro r ⟨s, rfl, hs⟩
    have hs' := hs
    obtain ⟨a, cap, sz, rd, xs, rfl, _⟩ := hs
    simp -implicitDefEqProofs only [evr, id, reduceCtorEq, reduceIte, Nat.reduceMul, Nat.reduceAdd, Nat.reduceLT, Nat.reduceLeDiff, Nat.reduceEqDiff, Int.reduceLT, Int.reduceBEq, Int.reduceBNe, Nat.reduceBEq, frS, evn]
    (refine hk _ ?_; clear hk k; try show Sat _ _ _ _ _)
    (repeat refine Sat.seq ?_)
    (refine Sat.region_k fun k hk => ?_; simp -implicitDefEqProofs only [evr, id, reduceCtorEq, reduceIte, Nat.reduceMul, Nat.reduceAdd, Nat.reduceLT, Nat.reduceLeDiff, Nat.reduceEqDiff, Int.reduceLT, Int.reduceBEq, Int.reduceBNe, Nat.reduceBEq, frS, evn]; refine hk _ ?_; clear hk k; try show Sat _ _ _ _ _)
    refine Sat.ret ?_
    simp only [Tryz.results55, evr, id, reduceCtorEq, reduceIte, Nat.reduceMul, Nat.reduceAdd, Nat.reduceLT, Nat.reduceLeDiff, Nat.reduceEqDiff, Int.reduceLT, Int.reduceBEq, Int.reduceBNe, Nat.reduceBEq, List.append_nil, Int.toNat_zero, Nat.sub_self, frS]
    exact hs'
  · have hn : n = -9223372036854775808 := by
      by_cases h9 : n = -9223372036854775808
      · exact h9
      · rw [bne_iff_ne.2 h9] at h; cases h
    subst hn
    refine Sat.skip ?_
    simp only [thenK]
    (repeat refine Sat.seq ?_)
    (refine Sat.region_k fun k hk => ?_; simp -implicitDefEqProofs only [evr, id, reduceCtorEq, reduceIte, Nat.reduceMul, Nat.reduceAdd, Nat.reduceLT, Nat.reduceLeDiff, Nat.reduceEqDiff, Int.reduceLT, Int.reduceBEq, Int.reduceBNe, Nat.reduceBEq, frS, evn])
    refine wcall_slice (fromC F 4611686018427387904 (by omega)) rfl rfl ?_
    rintro r ⟨s, rfl, hs⟩
    have hs' := hs
    obtain ⟨a, cap, sz, rd, xs, rfl, _⟩ := hs
    simp -implicitDefEqProofs only [evr, id, reduceCtorEq, reduceIte, Nat.reduceMul, Nat.reduceAdd, Nat.reduceLT, Nat.reduceLeDiff, Nat.reduceEqDiff, Int.reduceLT, Int.reduceBEq, Int.reduceBNe, Nat.reduceBEq, frS, evn]
    (refine hk _ ?_; clear hk k; try show Sat _ _ _ _ _)
    (repeat refine Sat.seq ?_)
    (refine Sat.region_k fun k hk => ?_; simp -implicitDefEqProofs only [evr, id, reduceCtorEq, reduceIte, Nat.reduceMul, Nat.reduceAdd, Nat.reduceLT, Nat.reduceLeDiff, Nat.reduceEqDiff, Int.reduceLT, Int.reduceBEq, Int.reduceBNe, Nat.reduceBEq, frS, evn])
    refine wcall_slice (addC F hs' hs' (lt_pw (a := 64) (by decide) (by decide))) rfl rfl ?_
    rintro r ⟨s, rfl, hs⟩
    have hs2 := hs
    obtain ⟨a2, cap2, sz2, rd2, xs2, rfl, _⟩ := hs
    simp -implicitDefEqProofs only [evr, id, reduceCtorEq, reduceIte, Nat.reduceMul, Nat.reduceAdd, Nat.reduceLT, Nat.reduceLeDiff, Nat.reduceEqDiff, Int.reduceLT, Int.reduceBEq, Int.reduceBNe, Nat.reduceBEq, frS, evn]
    (refine hk _ ?_; clear hk k; try show Sat _ _ _ _ _)
    (repeat refine Sat.seq ?_)
    (refine Sat.region_k fun k hk => ?_; simp -implicitDefEqProofs only [evr, id, reduceCtorEq, reduceIte, Nat.reduceMul, Nat.reduceAdd, Nat.reduceLT, Nat.reduceLeDiff, Nat.reduceEqDiff, Int.reduceLT, Int.reduceBEq, Int.reduceBNe, Nat.reduceBEq, frS, evn]; refine hk _ ?_; clear hk k; try show Sat _ _ _ _ _)
    refine Sat.ret ?_
    simp only [Tryz.results55, evr, id, reduceCtorEq, reduceIte, Nat.reduceMul, Nat.reduceAdd, Nat.reduceLT, Nat.reduceLeDiff, Nat.reduceEqDiff, Int.reduceLT, Int.reduceBEq, Int.reduceBNe, Nat.reduceBEq, List.append_nil, Int.toNat_zero, Nat.sub_self, frS]
    exact hs2
def fromN (n d : Int) : Bool := (decide (n < 0) != decide (d < 0)) && decide (0 < n.natAbs / Nat.gcd n.natAbs d.natAbs)
set_option maxRecDepth 100000 in
theorem fracFromC (F : Frm) (n d : Int) (h1 : -9223372036854775808 ≤ n) (h2 : n ≤ 9223372036854775807) (h3 : -9223372036854775808 ≤ d) (h4 : d ≤ 9223372036854775807) (h0 : d ≠ 0) :
    Contract F Tryz.prog 25 [.i .i64 n, .i .i64 d] (fun r => ∃ f, r = tupL [f, .i .i64 0] ∧ FrS f (fromN n d) (n.natAbs / Nat.gcd n.natAbs d.natAbs) (d.natAbs / Nat.gcd n.natAbs d.natAbs)) := by
  refine contract_of Tryz.func25 rfl (by kernel_rfl) ?_
  simp only [Tryz.ntmps25, argEnv]
  (repeat refine Sat.seq ?_)
  (refine Sat.region_k fun k hk => ?_; simp -implicitDefEqProofs only [evr, id, reduceCtorEq, reduceIte, Nat.reduceMul, Nat.reduceAdd, Nat.reduceLT, Nat.reduceLeDiff, Nat.reduceEqDiff, Int.reduceLT, Int.reduceBEq, Int.reduceBNe, Nat.reduceBEq, frS, evn])
  intro b4
  (refine hk _ ?_; clear hk k; try show Sat _ _ _ _ _)
  (repeat refine Sat.seq ?_)
  (refine Sat.region_k fun k hk => ?_; simp -implicitDefEqProofs only [evr, id, reduceCtorEq, reduceIte, Nat.reduceMul, Nat.reduceAdd, Nat.reduceLT, Nat.reduceLeDiff, Nat.reduceEqDiff, Int.reduceLT, Int.reduceBEq, Int.reduceBNe, Nat.reduceBEq, frS, evn]; refine hk _ ?_; clear hk k; try show Sat _ _ _ _ _)
  refine Sat.cond_b rfl (fun h => absurd (by simpa using h) h0) (fun h => ?_)
  refine Sat.skip ?_
  simp only [thenK]
  (repeat refine Sat.seq ?_)
  (refine Sat.region_k fun k hk => ?_; simp -implicitDefEqProofs only [evr, id, reduceCtorEq, reduceIte, Nat.reduceMul, Nat.reduceAdd, Nat.reduceLT, Nat.reduceLeDiff, Nat.reduceEqDiff, Int.reduceLT, Int.reduceBEq, Int.reduceBNe, Nat.reduceBEq, frS, evn])
  refine wcall_slice (fracMagC F n h1 h2) rfl rfl ?_
  intro r hs
  have hgs := hs
  obtain ⟨a3, c3, z3, r3, x3, rfl, _⟩ := hs
  simp -implicitDefEqProofs only [evr, id, reduceCtorEq, reduceIte, Nat.reduceMul, Nat.reduceAdd, Nat.reduceLT, Nat.reduceLeDiff, Nat.reduceEqDiff, Int.reduceLT, Int.reduceBEq, Int.reduceBNe, Nat.reduceBEq, frS, evn]
  refine wcall_slice (fracMagC F d h3 h4) rfl rfl ?_
  intro r hs
  have hgs2 := hs
  obtain ⟨a5, c5, z5, r5, x5, rfl, _⟩ := hs
  simp -implicitDefEqProofs only [evr, id, reduceCtorEq, reduceIte, Nat.reduceMul, Nat.reduceAdd, Nat.reduceLT, Nat.reduceLeDiff, Nat.reduceEqDiff, Int.reduceLT, Int.reduceBEq, Int.reduceBNe, Nat.reduceBEq, frS, evn]
  refine wcall_slice (fractionReducedC F (decide (n < 0) != decide (d < 0)) hgs hgs2 (natAbs_pwF h1 h2) (natAbs_pwF h3 h4) (by omega)) rfl rfl ?_
  rintro r ⟨sp, sq, rfl, hp, hq⟩
  have hp' := hp
  have hq' := hq
  obtain ⟨a6, c6, z6, r6, x6, rfl, _⟩ := hp
  obtain ⟨a7, c7, z7, r7, x7, rfl, _⟩ := hq
  simp -implicitDefEqProofs only [evr, id, reduceCtorEq, reduceIte, Nat.reduceMul, Nat.reduceAdd, Nat.reduceLT, Nat.reduceLeDiff, Nat.reduceEqDiff, Int.reduceLT, Int.reduceBEq, Int.reduceBNe, Nat.reduceBEq, frS, evn]
  (refine hk _ ?_; clear hk k; try show Sat _ _ _ _ _)
  refine Sat.ret ?_
  simp only [Tryz.results25, evr, id, reduceCtorEq, reduceIte, Nat.reduceMul, Nat.reduceAdd, Nat.reduceLT, Nat.reduceLeDiff, Nat.reduceEqDiff, Int.reduceLT, Int.reduceBEq, Int.reduceBNe, Nat.reduceBEq, List.append_nil, Int.toNat_zero, Nat.sub_self, frS]
  exact ⟨_, rfl, _, _, rfl, hp', hq'⟩
def mulG (p q r s : Nat) : Nat := Nat.gcd (p * r) (q * s)
def mulP (p q r s : Nat) : Nat := p * r / mulG p q r s
def mulQ (p q r s : Nat) : Nat := q * s / mulG p q r s
def mulN (na : Bool) (p q : Nat) (nb : Bool) (r s : Nat) : Bool := (na != nb) && decide (0 < mulP p q r s)
def ChkPost (neg : Bool) (p q : Nat) (x : SV) : Prop := (frOk neg p q = true ∧ ∃ f, x = tupL [f, .i .i64 0] ∧ FrS f neg p q) ∨ (frOk neg p q = false ∧ ∃ f, x = tupL [f, .i .i64 5] ∧ FrS f false 0 0)
set_option maxRecDepth 100000 in
theorem fractionMulC (F : Frm) (na nb : Bool) {sp sq sr ss : SV} {p q r s : Nat} (hp : Nats sp p) (hq : Nats sq q) (hr : Nats sr r) (hs : Nats ss s)
    (b1 : (p : Int) < pw 256) (b2 : (q : Int) < pw 256) (b3 : (r : Int) < pw 256) (b4 : (s : Int) < pw 256) (b7 : ((p * r : Nat) : Int) < pw 256) (b8 : ((q * s : Nat) : Int) < pw 256) (hq0 : 0 < q) (hs0 : 0 < s) :
    Contract F Tryz.prog 21 [frS na sp sq, frS nb sr ss] (ChkPost (mulN na p q nb r s) (mulP p q r s) (mulQ p q r s)) := by
  have hp' := hp
  have hq' := hq
  have hr' := hr
  have hs' := hs
  have up : ∀ x : Nat, (x : Int) < pw 256 → (x : Int) < pw 512 := fun x hx => by have := pw_mono (show 256 ≤ 512 by omega); omega
  obtain ⟨a1, c1, z1, r1, x1, rfl, _⟩ := hp
  obtain ⟨a2, c2, z2, r2, x2, rfl, _⟩ := hq
  obtain ⟨a3, c3, z3, r3, x3, rfl, _⟩ := hr
  obtain ⟨a4, c4, z4, r4, x4, rfl, _⟩ := hs
  refine contract_of Tryz.func21 rfl (by kernel_rfl) ?_
  simp only [Tryz.ntmps21, argEnv, frS]
  (repeat refine Sat.seq ?_)
  (refine Sat.region_k fun k hk => ?_; simp -implicitDefEqProofs only [evr, id, reduceCtorEq, reduceIte, Nat.reduceMul, Nat.reduceAdd, Nat.reduceLT, Nat.reduceLeDiff, Nat.reduceEqDiff, Int.reduceLT, Int.reduceBEq, Int.reduceBNe, Nat.reduceBEq, frS, evn])
  intro k1 k2 k3
  (refine hk _ ?_; clear hk k; try show Sat _ _ _ _ _)
  (repeat refine Sat.seq ?_)
  (refine Sat.region_rows [⟨0, 7, 4, 0⟩, ⟨1, 8, 64, 1⟩, ⟨0, 9, 8, 0⟩, ⟨4, 10, 256, 1⟩, ⟨10, 11, 640, 0⟩, ⟨0, 12, 4, 0⟩, ⟨32, 13, 2048, 1⟩, ⟨0, 14, 8, 0⟩, ⟨128, 15, 8192, 1⟩, ⟨320, 16, 20480, 2⟩, ⟨0, 17, 4, 0⟩, ⟨1024, 18, 65536, 1⟩, ⟨0, 19, 8, 0⟩, ⟨4096, 20, 262144, 1⟩, ⟨10752, 21, 655360, 2⟩, ⟨16912, 22, 1082368, 2⟩, ⟨32768, 23, 2097152, 2⟩, ⟨65536, 24, 4194304, 0⟩, ⟨65536, 25, 4194304, 0⟩, ⟨524287, 0, 8388624, 2⟩, ⟨1048575, 6, 16777216, 0⟩] [0, 2, 5, 7, 10, 12, 1, 3, 6, 8, 11, 13, 4] [(9, false), (14, false), (15, false), (16, false), (17, true), (18, false), (19, false), (20, false)] [9, 14] (by kernel_rfl) (by kernel_rfl) (fun _ _ h => h) fun k hk => ?_; simp only [List.map_cons, List.map_nil, List.getD_cons_zero, List.getD_cons_succ, btseq_cons, btseq_free, btseq_nil]; simp -implicitDefEqProofs only [evr, id, reduceCtorEq, reduceIte, Nat.reduceMul, Nat.reduceAdd, Nat.reduceLT, Nat.reduceLeDiff, Nat.reduceEqDiff, Int.reduceLT, Int.reduceBEq, Int.reduceBNe, Nat.reduceBEq, frS, evn])
  refine wcall_slice (fractionProductC F hp' hr' b1 b3 b7) rfl (by simp -implicitDefEqProofs only [evr, id, reduceCtorEq, reduceIte, Nat.reduceMul, Nat.reduceAdd, Nat.reduceLT, Nat.reduceLeDiff, Nat.reduceEqDiff, Int.reduceLT, Int.reduceBEq, Int.reduceBNe, Nat.reduceBEq, frS, evn]; try rfl) ?_
  intro y hy
  have hy1 := hy
  obtain ⟨a5, c5, z5, r5, x5, rfl, _⟩ := hy
  simp -implicitDefEqProofs only [evr, id, reduceCtorEq, reduceIte, Nat.reduceMul, Nat.reduceAdd, Nat.reduceLT, Nat.reduceLeDiff, Nat.reduceEqDiff, Int.reduceLT, Int.reduceBEq, Int.reduceBNe, Nat.reduceBEq, frS, evn]
  refine wcall_slice (fractionProductC F hq' hs' b2 b4 b8) rfl (by simp -implicitDefEqProofs only [evr, id, reduceCtorEq, reduceIte, Nat.reduceMul, Nat.reduceAdd, Nat.reduceLT, Nat.reduceLeDiff, Nat.reduceEqDiff, Int.reduceLT, Int.reduceBEq, Int.reduceBNe, Nat.reduceBEq, frS, evn]; try rfl) ?_
  intro y hy
  have hy2 := hy
  obtain ⟨a6, c6, z6, r6, x6, rfl, _⟩ := hy
  simp -implicitDefEqProofs only [evr, id, reduceCtorEq, reduceIte, Nat.reduceMul, Nat.reduceAdd, Nat.reduceLT, Nat.reduceLeDiff, Nat.reduceEqDiff, Int.reduceLT, Int.reduceBEq, Int.reduceBNe, Nat.reduceBEq, frS, evn]
  refine wcall_slice (fractionReducedC F (na != nb) hy1 hy2 b7 b8 (Nat.mul_pos hq0 hs0)) rfl (by simp -implicitDefEqProofs only [evr, id, reduceCtorEq, reduceIte, Nat.reduceMul, Nat.reduceAdd, Nat.reduceLT, Nat.reduceLeDiff, Nat.reduceEqDiff, Int.reduceLT, Int.reduceBEq, Int.reduceBNe, Nat.reduceBEq, frS, evn]; try rfl) ?_
  rintro y ⟨sp3, sq3, rfl, h3, h4⟩
  have h3' : Nats sp3 (mulP p q r s) := h3
  have h4' : Nats sq3 (mulQ p q r s) := h4
  have h3b := h3'
  have h4b := h4'
  clear h3 h4
  have bP : ((mulP p q r s : Nat) : Int) < pw 512 := up _ (by have : mulP p q r s ≤ p * r := Nat.div_le_self _ _; omega)
  have bQ : ((mulQ p q r s : Nat) : Int) < pw 512 := up _ (by have : mulQ p q r s ≤ q * s := Nat.div_le_self _ _; omega)
  obtain ⟨a9, c9, z9, r9, x9, rfl, _⟩ := h3b
  obtain ⟨a10, c10, z10, r10, x10, rfl, _⟩ := h4b
  simp only [frS, evr, id, reduceCtorEq, reduceIte, Nat.reduceMul, Nat.reduceAdd, Nat.reduceLT, Nat.reduceLeDiff, Nat.reduceEqDiff, Int.reduceLT, Int.reduceBEq, Int.reduceBNe, Nat.reduceBEq, List.append_nil, Int.toNat_zero, Nat.sub_self, frS]
  refine wcall_slice (checkedC F (mulN na p q nb r s) h3' h4' bP bQ) rfl (by simp -implicitDefEqProofs only [evr, id, reduceCtorEq, reduceIte, Nat.reduceMul, Nat.reduceAdd, Nat.reduceLT, Nat.reduceLeDiff, Nat.reduceEqDiff, Int.reduceLT, Int.reduceBEq, Int.reduceBNe, Nat.reduceBEq, frS, evn]; try rfl) ?_
  rintro y (⟨hok, f, rfl, sp5, sq5, rfl, h5, h6⟩ | ⟨hok, f, rfl, sp5, sq5, rfl, h5, h6⟩)
  · have h5' := h5
    have h6' := h6
    obtain ⟨a11, c11, z11, r11, x11, rfl, _⟩ := h5
    obtain ⟨a12, c12, z12, r12, x12, rfl, _⟩ := h6
    simp only [frS, evr, id, reduceCtorEq, reduceIte, Nat.reduceMul, Nat.reduceAdd, Nat.reduceLT, Nat.reduceLeDiff, Nat.reduceEqDiff, Int.reduceLT, Int.reduceBEq, Int.reduceBNe, Nat.reduceBEq, List.append_nil, Int.toNat_zero, Nat.sub_self, frS]
    (refine hk _ ?_; clear hk k; try show Sat _ _ _ _ _)
    refine Sat.ret ?_
    simp only [Tryz.results21, evr, id, reduceCtorEq, reduceIte, Nat.reduceMul, Nat.reduceAdd, Nat.reduceLT, Nat.reduceLeDiff, Nat.reduceEqDiff, Int.reduceLT, Int.reduceBEq, Int.reduceBNe, Nat.reduceBEq, List.append_nil, Int.toNat_zero, Nat.sub_self, frS]
    exact .inl ⟨hok, _, rfl, _, _, rfl, h5', h6'⟩
  · have h5' := h5
    have h6' := h6
    obtain ⟨a11, c11, z11, r11, x11, rfl, _⟩ := h5
    obtain ⟨a12, c12, z12, r12, x12, rfl, _⟩ := h6
    simp only [frS, evr, id, reduceCtorEq, reduceIte, Nat.reduceMul, Nat.reduceAdd, Nat.reduceLT, Nat.reduceLeDiff, Nat.reduceEqDiff, Int.reduceLT, Int.reduceBEq, Int.reduceBNe, Nat.reduceBEq, List.append_nil, Int.toNat_zero, Nat.sub_self, frS]
    (refine hk _ ?_; clear hk k; try show Sat _ _ _ _ _)
    refine Sat.ret ?_
    simp only [Tryz.results21, evr, id, reduceCtorEq, reduceIte, Nat.reduceMul, Nat.reduceAdd, Nat.reduceLT, Nat.reduceLeDiff, Nat.reduceEqDiff, Int.reduceLT, Int.reduceBEq, Int.reduceBNe, Nat.reduceBEq, List.append_nil, Int.toNat_zero, Nat.sub_self, frS]
    exact .inr ⟨hok, _, rfl, _, _, rfl, h5', h6'⟩
set_option maxRecDepth 100000 in
theorem fractionSubC (F : Frm) (na nb : Bool) {sp sq sr ss : SV} {p q r s : Nat} (hp : Nats sp p) (hq : Nats sq q) (hr : Nats sr r) (hs : Nats ss s)
    (b1 : (p : Int) < pw 256) (b2 : (q : Int) < pw 256) (b3 : (r : Int) < pw 256) (b4 : (s : Int) < pw 256) (b5 : ((p * s : Nat) : Int) < pw 256) (b6 : ((r * q : Nat) : Int) < pw 256) (b7 : ((p * s + r * q : Nat) : Int) < pw 256) (b8 : ((q * s : Nat) : Int) < pw 256) (hq0 : 0 < q) (hs0 : 0 < s) :
    Contract F Tryz.prog 19 [frS na sp sq, frS nb sr ss] (ChkPost (addN na p q (!nb) r s) (addP na p q (!nb) r s) (addQ na p q (!nb) r s)) := by
  have hp' := hp
  have hq' := hq
  have hr' := hr
  have hs' := hs
  obtain ⟨a1, c1, z1, r1, x1, rfl, _⟩ := hp
  obtain ⟨a2, c2, z2, r2, x2, rfl, _⟩ := hq
  obtain ⟨a3, c3, z3, r3, x3, rfl, _⟩ := hr
  obtain ⟨a4, c4, z4, r4, x4, rfl, _⟩ := hs
  refine contract_of Tryz.func19 rfl (by kernel_rfl) ?_
  simp only [Tryz.ntmps19, argEnv, frS]
  (repeat refine Sat.seq ?_)
  (refine Sat.region_k fun k hk => ?_; simp -implicitDefEqProofs only [evr, id, reduceCtorEq, reduceIte, Nat.reduceMul, Nat.reduceAdd, Nat.reduceLT, Nat.reduceLeDiff, Nat.reduceEqDiff, Int.reduceLT, Int.reduceBEq, Int.reduceBNe, Nat.reduceBEq, frS, evn])
  intro k1 k2 k3
  (refine hk _ ?_; clear hk k; try show Sat _ _ _ _ _)
  (repeat refine Sat.seq ?_)
  (refine Sat.region_k fun k hk => ?_; simp -implicitDefEqProofs only [evr, id, reduceCtorEq, reduceIte, Nat.reduceMul, Nat.reduceAdd, Nat.reduceLT, Nat.reduceLeDiff, Nat.reduceEqDiff, Int.reduceLT, Int.reduceBEq, Int.reduceBNe, Nat.reduceBEq, frS, evn]; refine hk _ ?_; clear hk k; try show Sat _ _ _ _ _)
  (repeat refine Sat.seq ?_)
  (refine Sat.region_k fun k hk => ?_; simp -implicitDefEqProofs only [evr, id, reduceCtorEq, reduceIte, Nat.reduceMul, Nat.reduceAdd, Nat.reduceLT, Nat.reduceLeDiff, Nat.reduceEqDiff, Int.reduceLT, Int.reduceBEq, Int.reduceBNe, Nat.reduceBEq, frS, evn])
  refine wcall_slice (fractionAddC F na (!nb) hp' hq' hr' hs' b1 b2 b3 b4 b5 b6 b7 b8 hq0 hs0) rfl (by simp -implicitDefEqProofs only [evr, id, reduceCtorEq, reduceIte, Nat.reduceMul, Nat.reduceAdd, Nat.reduceLT, Nat.reduceLeDiff, Nat.reduceEqDiff, Int.reduceLT, Int.reduceBEq, Int.reduceBNe, Nat.reduceBEq, frS, evn]; try rfl) ?_
  rintro y (⟨hok, f, rfl, sp5, sq5, rfl, h5, h6⟩ | ⟨hok, f, rfl, sp5, sq5, rfl, h5, h6⟩)
  · have h5' := h5
    have h6' := h6
    obtain ⟨a11, c11, z11, r11, x11, rfl, _⟩ := h5
    obtain ⟨a12, c12, z12, r12, x12, rfl, _⟩ := h6
    simp only [frS, evr, id, reduceCtorEq, reduceIte, Nat.reduceMul, Nat.reduceAdd, Nat.reduceLT, Nat.reduceLeDiff, Nat.reduceEqDiff, Int.reduceLT, Int.reduceBEq, Int.reduceBNe, Nat.reduceBEq, List.append_nil, Int.toNat_zero, Nat.sub_self, frS]
    (refine hk _ ?_; clear hk k; try show Sat _ _ _ _ _)
    refine Sat.ret ?_
    simp only [Tryz.results19, evr, id, reduceCtorEq, reduceIte, Nat.reduceMul, Nat.reduceAdd, Nat.reduceLT, Nat.reduceLeDiff, Nat.reduceEqDiff, Int.reduceLT, Int.reduceBEq, Int.reduceBNe, Nat.reduceBEq, List.append_nil, Int.toNat_zero, Nat.sub_self, frS]
    exact .inl ⟨hok, _, rfl, _, _, rfl, h5', h6'⟩
  · have h5' := h5
    have h6' := h6
    obtain ⟨a11, c11, z11, r11, x11, rfl, _⟩ := h5
    obtain ⟨a12, c12, z12, r12, x12, rfl, _⟩ := h6
    simp only [frS, evr, id, reduceCtorEq, reduceIte, Nat.reduceMul, Nat.reduceAdd, Nat.reduceLT, Nat.reduceLeDiff, Nat.reduceEqDiff, Int.reduceLT, Int.reduceBEq, Int.reduceBNe, Nat.reduceBEq, List.append_nil, Int.toNat_zero, Nat.sub_self, frS]
    (refine hk _ ?_; clear hk k; try show Sat _ _ _ _ _)
    refine Sat.ret ?_
    simp only [Tryz.results19, evr, id, reduceCtorEq, reduceIte, Nat.reduceMul, Nat.reduceAdd, Nat.reduceLT, Nat.reduceLeDiff, Nat.reduceEqDiff, Int.reduceLT, Int.reduceBEq, Int.reduceBNe, Nat.reduceBEq, List.append_nil, Int.toNat_zero, Nat.sub_self, frS]
    exact .inr ⟨hok, _, rfl, _, _, rfl, h5', h6'⟩
set_option maxRecDepth 100000 in
theorem fractionDivC (F : Frm) (na nb : Bool) {sp sq sr ss : SV} {p q r s : Nat} (hp : Nats sp p) (hq : Nats sq q) (hr : Nats sr r) (hs : Nats ss s)
    (b1 : (p : Int) < pw 256) (b2 : (q : Int) < pw 256) (b3 : (r : Int) < pw 256) (b4 : (s : Int) < pw 256) (b7 : ((p * s : Nat) : Int) < pw 256) (b8 : ((q * r : Nat) : Int) < pw 256) (hq0 : 0 < q) :
    Contract F Tryz.prog 23 [frS na sp sq, frS nb sr ss] (fun x => (r = 0 ∧ ∃ f, x = tupL [f, .i .i64 14] ∧ FrS f false 0 0) ∨ (0 < r ∧ ChkPost (mulN na p q nb s r) (mulP p q s r) (mulQ p q s r) x)) := by
  have hp' := hp
  have hq' := hq
  have hr' := hr
  have hs' := hs
  obtain ⟨a1, c1, z1, r1, x1, rfl, _⟩ := hp
  obtain ⟨a2, c2, z2, r2, x2, rfl, _⟩ := hq
  obtain ⟨a3, c3, z3, r3, x3, rfl, _⟩ := hr
  obtain ⟨a4, c4, z4, r4, x4, rfl, _⟩ := hs
  have hl := hr'.len0
  refine contract_of Tryz.func23 rfl (by kernel_rfl) ?_
  simp only [Tryz.ntmps23, argEnv, frS]
  (repeat refine Sat.seq ?_)
  (refine Sat.region_k fun k hk => ?_; simp -implicitDefEqProofs only [evr, id, reduceCtorEq, reduceIte, Nat.reduceMul, Nat.reduceAdd, Nat.reduceLT, Nat.reduceLeDiff, Nat.reduceEqDiff, Int.reduceLT, Int.reduceBEq, Int.reduceBNe, Nat.reduceBEq, frS, evn])
  intro k1 k2 k3
  (refine hk _ ?_; clear hk k; try show Sat _ _ _ _ _)
  (repeat refine Sat.seq ?_)
  (refine Sat.region_k fun k hk => ?_; simp -implicitDefEqProofs only [evr, id, reduceCtorEq, reduceIte, Nat.reduceMul, Nat.reduceAdd, Nat.reduceLT, Nat.reduceLeDiff, Nat.reduceEqDiff, Int.reduceLT, Int.reduceBEq, Int.reduceBNe, Nat.reduceBEq, frS, evn]; refine hk _ ?_; clear hk k; try show Sat _ _ _ _ _)
  refine Sat.cond_b rfl (fun h => ?_) (fun h => ?_)
  · rw [hl] at h
    (repeat refine Sat.seq ?_)
    (refine Sat.region_k fun k hk => ?_; simp -implicitDefEqProofs only [evr, id, reduceCtorEq, reduceIte, Nat.reduceMul, Nat.reduceAdd, Nat.reduceLT, Nat.reduceLeDiff, Nat.reduceEqDiff, Int.reduceLT, Int.reduceBEq, Int.reduceBNe, Nat.reduceBEq, frS, evn]; refine hk _ ?_; clear hk k; try show Sat _ _ _ _ _)
    refine Sat.ret ?_
    simp only [Tryz.results23, evr, id, reduceCtorEq, reduceIte, Nat.reduceMul, Nat.reduceAdd, Nat.reduceLT, Nat.reduceLeDiff, Nat.reduceEqDiff, Int.reduceLT, Int.reduceBEq, Int.reduceBNe, Nat.reduceBEq, List.append_nil, Int.toNat_zero, Nat.sub_self, frS]
    exact .inl ⟨of_decide_eq_true h, _, rfl, _, _, rfl, Nats.nil, Nats.nil⟩
  · rw [hl] at h
    have hr0 : 0 < r := by have := of_decide_eq_false h; omega
    refine Sat.skip ?_
    simp only [thenK]
    (repeat refine Sat.seq ?_)
    (refine Sat.region_k fun k hk => ?_; simp -implicitDefEqProofs only [evr, id, reduceCtorEq, reduceIte, Nat.reduceMul, Nat.reduceAdd, Nat.reduceLT, Nat.reduceLeDiff, Nat.reduceEqDiff, Int.reduceLT, Int.reduceBEq, Int.reduceBNe, Nat.reduceBEq, frS, evn]; refine hk _ ?_; clear hk k; try show Sat _ _ _ _ _)
    (repeat refine Sat.seq ?_)
    (refine Sat.region_k fun k hk => ?_; simp -implicitDefEqProofs only [evr, id, reduceCtorEq, reduceIte, Nat.reduceMul, Nat.reduceAdd, Nat.reduceLT, Nat.reduceLeDiff, Nat.reduceEqDiff, Int.reduceLT, Int.reduceBEq, Int.reduceBNe, Nat.reduceBEq, frS, evn])
    refine wcall_slice (fractionMulC F na nb hp' hq' hs' hr' b1 b2 b4 b3 b7 b8 hq0 hr0) rfl (by simp -implicitDefEqProofs only [evr, id, reduceCtorEq, reduceIte, Nat.reduceMul, Nat.reduceAdd, Nat.reduceLT, Nat.reduceLeDiff, Nat.reduceEqDiff, Int.reduceLT, Int.reduceBEq, Int.reduceBNe, Nat.reduceBEq, frS, evn]; try rfl) ?_
    rintro y (⟨hok, f, rfl, sp5, sq5, rfl, h5, h6⟩ | ⟨hok, f, rfl, sp5, sq5, rfl, h5, h6⟩)
    · have h5' := h5
      have h6' := h6
      obtain ⟨a11, c11, z11, r11, x11, rfl, _⟩ := h5
      obtain ⟨a12, c12, z12, r12, x12, rfl, _⟩ := h6
      simp only [frS, evr, id, reduceCtorEq, reduceIte, Nat.reduceMul, Nat.reduceAdd, Nat.reduceLT, Nat.reduceLeDiff, Nat.reduceEqDiff, Int.reduceLT, Int.reduceBEq, Int.reduceBNe, Nat.reduceBEq, List.append_nil, Int.toNat_zero, Nat.sub_self, frS]
      (refine hk _ ?_; clear hk k; try show Sat _ _ _ _ _)
      refine Sat.ret ?_
      simp only [Tryz.results23, evr, id, reduceCtorEq, reduceIte, Nat.reduceMul, Nat.reduceAdd, Nat.reduceLT, Nat.reduceLeDiff, Nat.reduceEqDiff, Int.reduceLT, Int.reduceBEq, Int.reduceBNe, Nat.reduceBEq, List.append_nil, Int.toNat_zero, Nat.sub_self, frS]
      exact .inr ⟨hr0, .inl ⟨hok, _, rfl, _, _, rfl, h5', h6'⟩⟩
    · have h5' := h5
      have h6' := h6
      obtain ⟨a11, c11, z11, r11, x11, rfl, _⟩ := h5
      obtain ⟨a12, c12, z12, r12, x12, rfl, _⟩ := h6
      simp only [frS, evr, id, reduceCtorEq, reduceIte, Nat.reduceMul, Nat.reduceAdd, Nat.reduceLT, Nat.reduceLeDiff, Nat.reduceEqDiff, Int.reduceLT, Int.reduceBEq, Int.reduceBNe, Nat.reduceBEq, List.append_nil, Int.toNat_zero, Nat.sub_self, frS]
      (refine hk _ ?_; clear hk k; try show Sat _ _ _ _ _)
      refine Sat.ret ?_
      simp only [Tryz.results23, evr, id, reduceCtorEq, reduceIte, Nat.reduceMul, Nat.reduceAdd, Nat.reduceLT, Nat.reduceLeDiff, Nat.reduceEqDiff, Int.reduceLT, Int.reduceBEq, Int.reduceBNe, Nat.reduceBEq, List.append_nil, Int.toNat_zero, Nat.sub_self, frS]
      exact .inr ⟨hr0, .inr ⟨hok, _, rfl, _, _, rfl, h5', h6'⟩⟩
end Go.Proofs.YtgdbcpljdibliaaGreatDoor
