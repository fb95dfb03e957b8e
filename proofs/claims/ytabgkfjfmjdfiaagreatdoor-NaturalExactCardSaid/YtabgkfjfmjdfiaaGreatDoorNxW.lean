/- It is proved that the statement NaturalExact holds for every input: all functions of package natural give what the document's definitions give. No conditions. -/
import Derived.Test.YtabgkfjfmjdfiaaGreatDoorPk5
import Derived.Test.YtabgkfjfmjdfiaaGreatDoorNtE
import Derived.Test.YtabgkfjfmjdfiaaGreatDoorWalkE
import Derived.Test.YtabgkfjfmjdfiaaGreatDoorShNaturalExact
set_option linter.unusedSimpArgs false
set_option linter.unusedVariables false
namespace Go.Proofs.YtabgkfjfmjdfiaaGreatDoor
namespace Tq
open Eng Lmb Go.RowKit
theorem slB_bytesR (a : Option Addr) (cap : Nat) (z : List Int) (hz : ∀ n ∈ z, (Lit.int .u8 n).wf = true) : isBytes (slB a cap z) :=
  ⟨a, z.length, cap, _, rfl, fun i hi => ⟨z.getD i 0, by have := bounds_u8 (hz _ (getD_mem (d := 0) hi)); omega, by have := bounds_u8 (hz _ (getD_mem (d := 0) hi)); omega, rfl⟩⟩
theorem nats_awake {s : SV} (h : Nats s 1073741824) : ∃ a cap rd, s = .sl a 2 cap 1 rd ∧ rd 1 0 = .i .i64 1 := by
  obtain ⟨a, cap, sz, rd, xs, rfl, hz, hrd, hd⟩ := h
  have hd2 : Dig [0, 1] 1073741824 := ⟨limbs_cons.2 ⟨by omega, limbs_cons.2 ⟨by omega, limbs_nil⟩⟩, norm_cons.2 (norm_one.2 (by decide)), by decide⟩
  have e : xs = [0, 1] := (hd.inj hd2).2 rfl
  subst e
  rcases hz with hz | rfl
  · cases hz
  · exact ⟨a, cap, rd, rfl, hrd 1 (by decide)⟩
set_option maxRecDepth 100000 in
theorem awakeC (F : Frm) : Contract F Tryz.prog 5 [] (fun r => r = .b true) := by
  have hpw : ((1073741823 + 1 : Nat) : Int) < pw 256 := lt_pw (a := 31) (by decide) (by decide)
  refine contract_of Tryz.func5 rfl (by kernel_rfl) ?_
  simp only [Tryz.ntmps5, argEnv]
  (repeat refine Sat.seq ?_)
  (refine Sat.region_k fun k hk => ?_; simp -implicitDefEqProofs only [evr, id, reduceCtorEq, reduceIte, Nat.reduceMul, Nat.reduceAdd, Nat.reduceLT, Nat.reduceLeDiff, Nat.reduceEqDiff, Int.reduceLT, Int.reduceBEq, Int.reduceBNe, Nat.reduceBEq, ptr, evn]; refine hk _ ?_; clear hk k; try show Sat _ _ _ _ _)
  (repeat refine Sat.seq ?_)
  (refine Sat.region_k fun k hk => ?_; simp -implicitDefEqProofs only [evr, id, reduceCtorEq, reduceIte, Nat.reduceMul, Nat.reduceAdd, Nat.reduceLT, Nat.reduceLeDiff, Nat.reduceEqDiff, Int.reduceLT, Int.reduceBEq, Int.reduceBNe, Nat.reduceBEq, ptr, evn])
  intro b1 b2
  refine wcall_slice (addC F (nats_one (a := some ⟨b1, 0, none⟩) (cap := 1) (x := 1073741823) (by decide) (by decide)) (nats_one (a := some ⟨b2, 0, none⟩) (cap := 1) (x := 1) (by decide) (by decide)) hpw) rfl (by simp -implicitDefEqProofs only [evr, id, reduceCtorEq, reduceIte, Nat.reduceMul, Nat.reduceAdd, Nat.reduceLT, Nat.reduceLeDiff, Nat.reduceEqDiff, Int.reduceLT, Int.reduceBEq, Int.reduceBNe, Nat.reduceBEq, ptr, evn]; try rfl) ?_
  rintro r ⟨s, rfl, hs⟩
  obtain ⟨a, cap, rd, rfl, h1⟩ := nats_awake hs
  simp -implicitDefEqProofs only [evr, id, reduceCtorEq, reduceIte, Nat.reduceMul, Nat.reduceAdd, Nat.reduceLT, Nat.reduceLeDiff, Nat.reduceEqDiff, Int.reduceLT, Int.reduceBEq, Int.reduceBNe, Nat.reduceBEq, ptr, evn]
  (refine hk _ ?_; clear hk k; try show Sat _ _ _ _ _)
  have h1' : rd (Int.toNat 1) 0 = .i .i64 1 := h1
  (repeat refine Sat.seq ?_)
  refine Sat.region_k fun k hk => ?_
  simp -implicitDefEqProofs only [evr, id, reduceCtorEq, reduceIte, Nat.reduceMul, Nat.reduceAdd, Nat.reduceLT, Nat.reduceLeDiff, Nat.reduceEqDiff, Int.reduceLT, Int.reduceBEq, Int.reduceBNe, Nat.reduceBEq, ptr, h1', beq_self_eq_true, evn]
  refine ⟨fun _ => ⟨⟨by decide, by decide⟩, ?_⟩, fun h => absurd h (by decide)⟩
  (refine hk _ ?_; clear hk k; try show Sat _ _ _ _ _)
  refine Sat.ret ?_
  simp only [Tryz.results5, evr, id, reduceCtorEq, reduceIte, Nat.reduceMul, Nat.reduceAdd, Nat.reduceLT, Nat.reduceLeDiff, Nat.reduceEqDiff, Int.reduceLT, Int.reduceBEq, Int.reduceBNe, Nat.reduceBEq, ptr, List.append_nil, Int.toNat_zero, Nat.sub_self]
  try rfl
theorem pow_mono2 (a b : Nat) (h : a ≤ b) : 2 ^ a ≤ 2 ^ b := Nat.pow_le_pow_right (by decide) h
theorem six_two {n : Nat} (h : (n : Int) < pw 6) : n < 2 ^ 7680 := by
  have e : pw 6 = ((2 ^ 180 : Nat) : Int) := by decide +kernel
  rw [e] at h
  exact Nat.lt_of_lt_of_le (Int.ofNat_lt.1 h) (pow_mono2 180 7680 (by decide))
abbrev FrC (cb : Nat) : Frm := Frm.codesT cb (1 + 1) TxT tx_low
theorem cell_at (k0 y : Int) {j : Nat} (h : j < 5) : ∃ i : Int, rdL [SV.i .i64 k0, .i .i64 y, .i .i64 (-1), .i .i64 65536, .i .i64 65537] 1 j 0 = .i .i64 i := by
  match j, h with
  | 0, _ => exact ⟨_, rfl⟩
  | 1, _ => exact ⟨_, rfl⟩
  | 2, _ => exact ⟨_, rfl⟩
  | 3, _ => exact ⟨_, rfl⟩
  | 4, _ => exact ⟨_, rfl⟩
theorem tx_lt {w : World} (h : TxT w) : 1 + 1 ≤ w.heap.size := by
  unfold TxT Lib.TabIs at h
  unfold World.var? at h
  rw [show Tryz.prog.globalNamed "internal/strconv.uint64pow10" = some 1 by kernel_rfl] at h
  simp only [Option.bind_some] at h
  by_cases h0 : 1 < w.heap.size
  · exact h0
  · rw [Array.getElem?_eq_none (by omega)] at h
    cases h
set_option maxRecDepth 100000 in
theorem sameTC (F : Frm) {sa sb : SV} {n : Nat} (e : Int) (ha : Nats sa n) (hb : Nats sb n) : Contract F Tryz.prog 10 [sa, .i .i64 e, sb, .i .i64 e] (fun r => r = .b true) := by
  have eS : decide (n = n) = true := decide_eq_true rfl
  have sm := sameNatC F ha hb
  rw [eS] at sm
  obtain ⟨a1, c1, z1, r1, x1, rfl, _⟩ := ha
  obtain ⟨a2, c2, z2, r2, x2, rfl, _⟩ := hb
  refine contract_of Tryz.func10 rfl (by kernel_rfl) ?_
  simp only [Tryz.ntmps10, argEnv]
  (repeat refine Sat.seq ?_)
  (refine Sat.region_k fun k hk => ?_; simp -implicitDefEqProofs only [evr, id, reduceCtorEq, reduceIte, Nat.reduceMul, Nat.reduceAdd, Nat.reduceLT, Nat.reduceLeDiff, Nat.reduceEqDiff, Int.reduceLT, Int.reduceBEq, Int.reduceBNe, Nat.reduceBEq, ptr, evn]; refine hk _ ?_; clear hk k; try show Sat _ _ _ _ _)
  (repeat refine Sat.seq ?_)
  refine Sat.region_k fun k hk => ?_
  simp -implicitDefEqProofs only [evr, id, reduceCtorEq, reduceIte, Nat.reduceMul, Nat.reduceAdd, Nat.reduceLT, Nat.reduceLeDiff, Nat.reduceEqDiff, Int.reduceLT, Int.reduceBEq, Int.reduceBNe, Nat.reduceBEq, ptr, beq_self_eq_true, evn]
  refine wcall_plain sm rfl (by rintro _ rfl; exact ok_plain rfl) ?_
  rintro _ rfl
  simp -implicitDefEqProofs only [evr, id, reduceCtorEq, reduceIte, Nat.reduceMul, Nat.reduceAdd, Nat.reduceLT, Nat.reduceLeDiff, Nat.reduceEqDiff, Int.reduceLT, Int.reduceBEq, Int.reduceBNe, Nat.reduceBEq, ptr, evn]
  (refine hk _ ?_; clear hk k; try show Sat _ _ _ _ _)
  refine Sat.ret ?_
  simp only [Tryz.results10, evr, id, reduceCtorEq, reduceIte, Nat.reduceMul, Nat.reduceAdd, Nat.reduceLT, Nat.reduceLeDiff, Nat.reduceEqDiff, Int.reduceLT, Int.reduceBEq, Int.reduceBNe, Nat.reduceBEq, ptr, List.append_nil, Int.toNat_zero, Nat.sub_self]
set_option maxRecDepth 100000 in
theorem natFrom2C (F : Frm) (n : Int) (h2 : n < 9223372036854775808) : Contract F Tryz.prog 29 [.i .i64 n] (numRes (if n < 0 then 15 else 0) n.toNat) := by
  by_cases h : n < 0
  · rw [if_pos h, show n.toNat = 0 by omega]
    refine contract_of Tryz.func29 rfl (by kernel_rfl) ?_
    simp only [Tryz.ntmps29, argEnv]
    (repeat refine Sat.seq ?_)
    (refine Sat.region_k fun k hk => ?_; simp -implicitDefEqProofs only [evr, id, reduceCtorEq, reduceIte, Nat.reduceMul, Nat.reduceAdd, Nat.reduceLT, Nat.reduceLeDiff, Nat.reduceEqDiff, Int.reduceLT, Int.reduceBEq, Int.reduceBNe, Nat.reduceBEq, ptr, evn]; refine hk _ ?_; clear hk k; try show Sat _ _ _ _ _)
    (repeat refine Sat.seq ?_)
    (refine Sat.region_k fun k hk => ?_; simp -implicitDefEqProofs only [evr, id, reduceCtorEq, reduceIte, Nat.reduceMul, Nat.reduceAdd, Nat.reduceLT, Nat.reduceLeDiff, Nat.reduceEqDiff, Int.reduceLT, Int.reduceBEq, Int.reduceBNe, Nat.reduceBEq, ptr, evn]; refine hk _ ?_; clear hk k; try show Sat _ _ _ _ _)
    refine Sat.cond_b rfl (fun _ => ?_) (fun h9 => absurd h (of_decide_eq_false h9))
    (repeat refine Sat.seq ?_)
    (refine Sat.region_k fun k hk => ?_; simp -implicitDefEqProofs only [evr, id, reduceCtorEq, reduceIte, Nat.reduceMul, Nat.reduceAdd, Nat.reduceLT, Nat.reduceLeDiff, Nat.reduceEqDiff, Int.reduceLT, Int.reduceBEq, Int.reduceBNe, Nat.reduceBEq, ptr, evn]; refine hk _ ?_; clear hk k; try show Sat _ _ _ _ _)
    refine Sat.ret ?_
    simp only [Tryz.results29, evr, id, reduceCtorEq, reduceIte, Nat.reduceMul, Nat.reduceAdd, Nat.reduceLT, Nat.reduceLeDiff, Nat.reduceEqDiff, Int.reduceLT, Int.reduceBEq, Int.reduceBNe, Nat.reduceBEq, ptr, List.append_nil, Int.toNat_zero, Nat.sub_self]
    exact ⟨_, rfl, Nats.nil⟩
  · rw [if_neg h]
    obtain ⟨m, rfl⟩ : ∃ m : Nat, n = m := ⟨n.toNat, by omega⟩
    rw [Int.toNat_natCast]
    exact fromC F m (by omega)
set_option maxRecDepth 100000 in
theorem refFrom2C (F : Frm) (n : Int) (h2 : n < 9223372036854775808) : Contract F Tryz.prog 30 [.i .i64 n] (numRes (if n < 0 then 15 else 0) n.toNat) := by
  refine contract_of Tryz.func30 rfl (by kernel_rfl) ?_
  simp only [Tryz.ntmps30, argEnv]
  (repeat refine Sat.seq ?_)
  (refine Sat.region_k fun k hk => ?_; simp -implicitDefEqProofs only [evr, id, reduceCtorEq, reduceIte, Nat.reduceMul, Nat.reduceAdd, Nat.reduceLT, Nat.reduceLeDiff, Nat.reduceEqDiff, Int.reduceLT, Int.reduceBEq, Int.reduceBNe, Nat.reduceBEq, ptr, evn]; refine hk _ ?_; clear hk k; try show Sat _ _ _ _ _)
  (repeat refine Sat.seq ?_)
  (refine Sat.region_k fun k hk => ?_; simp -implicitDefEqProofs only [evr, id, reduceCtorEq, reduceIte, Nat.reduceMul, Nat.reduceAdd, Nat.reduceLT, Nat.reduceLeDiff, Nat.reduceEqDiff, Int.reduceLT, Int.reduceBEq, Int.reduceBNe, Nat.reduceBEq, ptr, evn]; refine hk _ ?_; clear hk k; try show Sat _ _ _ _ _)
  refine Sat.cond_b rfl (fun h9 => ?_) (fun h9 => ?_)
  · have h := of_decide_eq_true h9
    rw [if_pos h, show n.toNat = 0 by omega]
    (repeat refine Sat.seq ?_)
    (refine Sat.region_k fun k hk => ?_; simp -implicitDefEqProofs only [evr, id, reduceCtorEq, reduceIte, Nat.reduceMul, Nat.reduceAdd, Nat.reduceLT, Nat.reduceLeDiff, Nat.reduceEqDiff, Int.reduceLT, Int.reduceBEq, Int.reduceBNe, Nat.reduceBEq, ptr, evn]; refine hk _ ?_; clear hk k; try show Sat _ _ _ _ _)
    refine Sat.ret ?_
    simp only [Tryz.results30, evr, id, reduceCtorEq, reduceIte, Nat.reduceMul, Nat.reduceAdd, Nat.reduceLT, Nat.reduceLeDiff, Nat.reduceEqDiff, Int.reduceLT, Int.reduceBEq, Int.reduceBNe, Nat.reduceBEq, ptr, List.append_nil, Int.toNat_zero, Nat.sub_self]
    exact ⟨_, rfl, Nats.nil⟩
  · have h := of_decide_eq_false h9
    rw [if_neg h]
    obtain ⟨m, rfl⟩ : ∃ m : Nat, n = m := ⟨n.toNat, by omega⟩
    rw [Int.toNat_natCast]
    have e1 : IntKind.u64.wrap (m : Int) = (m : Int) := by rw [IntKind.wrap_u64]; omega
    refine Sat.skip ?_
    simp only [thenK]
    (repeat refine Sat.seq ?_)
    refine Sat.region_k fun k hk => ?_
    simp -implicitDefEqProofs only [evr, id, reduceCtorEq, reduceIte, Nat.reduceMul, Nat.reduceAdd, Nat.reduceLT, Nat.reduceLeDiff, Nat.reduceEqDiff, Int.reduceLT, Int.reduceBEq, Int.reduceBNe, Nat.reduceBEq, ptr, e1, evn]
    refine wcall_slice (refWordC F m (by omega)) rfl rfl ?_
    intro y hy
    have hs5 := hy
    obtain ⟨a5, c5, z5, r5, x5, rfl, _⟩ := hy
    simp -implicitDefEqProofs only [evr, id, reduceCtorEq, reduceIte, Nat.reduceMul, Nat.reduceAdd, Nat.reduceLT, Nat.reduceLeDiff, Nat.reduceEqDiff, Int.reduceLT, Int.reduceBEq, Int.reduceBNe, Nat.reduceBEq, ptr, evn]
    (refine hk _ ?_; clear hk k; try show Sat _ _ _ _ _)
    refine Sat.ret ?_
    simp only [Tryz.results30, evr, id, reduceCtorEq, reduceIte, Nat.reduceMul, Nat.reduceAdd, Nat.reduceLT, Nat.reduceLeDiff, Nat.reduceEqDiff, Int.reduceLT, Int.reduceBEq, Int.reduceBNe, Nat.reduceBEq, ptr, List.append_nil, Int.toNat_zero, Nat.sub_self]
    exact ⟨_, rfl, hs5⟩
theorem textAC {s : SV} {n : Nat} (hs : Nats s n) (hn : (n : Int) < pw 6) (cb : Nat) : Contract (FrC cb) Tryz.prog 22 [s] (fun r => r = sB (Lib.decDigits n)) :=
  (textC hs (six_two hn) (Int.lt_of_lt_of_le hn (pw_mono (by decide)))).tabT
theorem six_add {m q : Nat} (h1 : (m : Int) < pw 6) (h2 : (q : Int) < pw 5) : ((m + q : Nat) : Int) < pw 256 := by
  have h3 := pw_mono (show 5 ≤ 6 by decide)
  refine Int.lt_of_lt_of_le (b := pw 7) ?_ (pw_mono (by decide))
  rw [show pw 7 = 1073741824 * pw 6 from pw_succ 6]
  omega
theorem pw_e6 : pw 6 = ((2 ^ 180 : Nat) : Int) := by decide +kernel
theorem pw_e5 : pw 5 = ((2 ^ 150 : Nat) : Int) := by decide +kernel
theorem mul_pw {m q a b k : Nat} (h1 : m ≤ 2 ^ a) (h2 : q ≤ 2 ^ b) (h : a + b < 30 * k) : ((m * q : Nat) : Int) < pw k := by
  refine lt_pw (a := a + b) ?_ h
  rw [Nat.pow_add]
  exact Nat.mul_le_mul h1 h2
theorem six_mul {m q : Nat} (h1 : (m : Int) < pw 6) (h2 : (q : Int) < pw 5) : ((m * q : Nat) : Int) < pw 256 := by
  rw [pw_e6] at h1
  rw [pw_e5] at h2
  exact mul_pw (Nat.le_of_lt (Int.ofNat_lt.1 h1)) (Nat.le_of_lt (Int.ofNat_lt.1 h2)) (by decide)
theorem natValidTC (F : Frm) {s : SV} {n : Nat} (hs : Nats s n) (hb : (n : Int) < pw 256) : Contract F Tryz.prog 35 [s] (fun r => r = .b true) := by
  have h := natValidC F hs (Int.lt_of_lt_of_le hb (pw_mono (by decide)))
  rw [decide_eq_true hb] at h
  exact h
set_option maxHeartbeats 4000000 in
set_option maxRecDepth 100000 in
theorem exactC (a : Option Addr) (cap : Nat) (z : List Int) (hz : ∀ n ∈ z, (Lit.int .u8 n).wf = true) {ra : Option Addr} {rc rs : Nat} {rr : Nat → Nat → SV} {raw : List Int} (hraw : Ints (.sl ra raw.length rc rs rr) raw) (n k0 : Int) (hnb : n < 9223372036854775808) (l : List UInt8) :
    Contract FrA Tryz.prog 3 [slB a cap z, .sl ra raw.length rc rs rr, .i .i64 n, .i .i64 k0, sB l] (fun r => r = .b true) := by
  have hb := slB_bytesR a cap z hz
  refine contract_of Tryz.func3 rfl (by kernel_rfl) ?_
  simp only [Tryz.ntmps3, argEnv]
  (repeat refine Sat.seq ?_)
  (refine Sat.region_k fun k hk => ?_; simp -implicitDefEqProofs only [evr, id, reduceCtorEq, reduceIte, Nat.reduceMul, Nat.reduceAdd, Nat.reduceLT, Nat.reduceLeDiff, Nat.reduceEqDiff, Int.reduceLT, Int.reduceBEq, Int.reduceBNe, Nat.reduceBEq, ptr, evn]; refine hk _ ?_; clear hk k; try show Sat _ _ _ _ _)
  (repeat refine Sat.seq ?_)
  refine Sat.region_at ⟨291, [(45, .b (decide (400 < raw.length ∨ 2500 < l.length))), (0, slB a cap z), (1, .sl ra raw.length rc rs rr), (2, .i .i64 n), (3, .i .i64 k0), (4, sB l)], []⟩ (fun k hk => ?_) ?_
  · simp -implicitDefEqProofs only [evr, id, reduceCtorEq, reduceIte, Nat.reduceMul, Nat.reduceAdd, Nat.reduceLT, Nat.reduceLeDiff, Nat.reduceEqDiff, Int.reduceLT, Int.reduceBEq, Int.reduceBNe, Nat.reduceBEq, ptr, evn]
    refine wcall_plain (awakeC FrA) rfl (by rintro _ rfl; exact ok_plain rfl) ?_
    rintro _ rfl
    simp -implicitDefEqProofs only [evr, id, reduceCtorEq, reduceIte, Nat.reduceMul, Nat.reduceAdd, Nat.reduceLT, Nat.reduceLeDiff, Nat.reduceEqDiff, Int.reduceLT, Int.reduceBEq, Int.reduceBNe, Nat.reduceBEq, ptr, mkB_size, evn]
    refine ⟨fun h9 => ?_, fun h9 => ?_⟩
    · refine hk _ ?_
      rw [decide_eq_true (show 400 < raw.length ∨ 2500 < l.length by omega)]
      simp -implicitDefEqProofs only [evr, id, reduceCtorEq, reduceIte, Nat.reduceMul, Nat.reduceAdd, Nat.reduceLT, Nat.reduceLeDiff, Nat.reduceEqDiff, Int.reduceLT, Int.reduceBEq, Int.reduceBNe, Nat.reduceBEq, ptr, evl, evn]
      repeat' (first | rfl | (refine And.intro ?_ ?_))
    · refine hk _ ?_
      have e : decide (2500 < (l.length : Int)) = decide (400 < raw.length ∨ 2500 < l.length) := by
        apply Bool.eq_iff_iff.2
        rw [decide_eq_true_eq, decide_eq_true_eq]
        omega
      rw [e]
      simp -implicitDefEqProofs only [evr, id, reduceCtorEq, reduceIte, Nat.reduceMul, Nat.reduceAdd, Nat.reduceLT, Nat.reduceLeDiff, Nat.reduceEqDiff, Int.reduceLT, Int.reduceBEq, Int.reduceBNe, Nat.reduceBEq, ptr, evl, evn]
      repeat' (first | rfl | (refine And.intro ?_ ?_))
  simp only [thenK]
  refine Sat.cond_b rfl (fun h => ?_) (fun h => ?_)
  · have h9 := of_decide_eq_true h
    (repeat refine Sat.seq ?_)
    refine Sat.region_at ⟨291, [(10, .b true)], []⟩ (fun k hk => ?_) ?_
    · simp -implicitDefEqProofs only [evr, id, reduceCtorEq, reduceIte, Nat.reduceMul, Nat.reduceAdd, Nat.reduceLT, Nat.reduceLeDiff, Nat.reduceEqDiff, Int.reduceLT, Int.reduceBEq, Int.reduceBNe, Nat.reduceBEq, ptr, mkB_size, evn]
      refine ⟨fun h8 => ?_, fun h8 => ?_⟩
      · refine hk _ ?_
        simp -implicitDefEqProofs only [evr, id, reduceCtorEq, reduceIte, Nat.reduceMul, Nat.reduceAdd, Nat.reduceLT, Nat.reduceLeDiff, Nat.reduceEqDiff, Int.reduceLT, Int.reduceBEq, Int.reduceBNe, Nat.reduceBEq, ptr, evl, evn]
        try exact h8
      · refine hk _ ?_
        rw [decide_eq_true (show 2500 < (l.length : Int) by omega)]
        simp -implicitDefEqProofs only [evr, id, reduceCtorEq, reduceIte, Nat.reduceMul, Nat.reduceAdd, Nat.reduceLT, Nat.reduceLeDiff, Nat.reduceEqDiff, Int.reduceLT, Int.reduceBEq, Int.reduceBNe, Nat.reduceBEq, ptr, evl, evn]
    simp only [thenK]
    refine Sat.ret ?_
    simp only [Tryz.results3, evr, id, reduceCtorEq, reduceIte, Nat.reduceMul, Nat.reduceAdd, Nat.reduceLT, Nat.reduceLeDiff, Nat.reduceEqDiff, Int.reduceLT, Int.reduceBEq, Int.reduceBNe, Nat.reduceBEq, ptr, List.append_nil, Int.toNat_zero, Nat.sub_self]
  have h9 := of_decide_eq_false h
  have hrl : raw.length ≤ 400 := by omega
  have hll : l.length ≤ 2500 := by omega
  refine Sat.skip ?_
  simp only [thenK]
  (repeat refine Sat.seq ?_)
  (refine Sat.region_k fun k hk => ?_; simp -implicitDefEqProofs only [evr, id, reduceCtorEq, reduceIte, Nat.reduceMul, Nat.reduceAdd, Nat.reduceLT, Nat.reduceLeDiff, Nat.reduceEqDiff, Int.reduceLT, Int.reduceBEq, Int.reduceBNe, Nat.reduceBEq, ptr, evn])
  refine wcall_make (newRC (slB a cap z) hb 200 (by decide)) ?_
  intro cb
  simp -implicitDefEqProofs only [evr, id, reduceCtorEq, reduceIte, Nat.reduceMul, Nat.reduceAdd, Nat.reduceLT, Nat.reduceLeDiff, Nat.reduceEqDiff, Int.reduceLT, Int.reduceBEq, Int.reduceBNe, Nat.reduceBEq, ptr, evn]
  (refine hk _ ?_; clear hk k; try show Sat _ _ _ _ _)
  refine Sat.switchT (cb := cb) (id := 0) rfl ?_
  (repeat refine Sat.seq ?_)
  (refine Sat.region_k fun k hk => ?_; simp -implicitDefEqProofs only [evr, id, reduceCtorEq, reduceIte, Nat.reduceMul, Nat.reduceAdd, Nat.reduceLT, Nat.reduceLeDiff, Nat.reduceEqDiff, Int.reduceLT, Int.reduceBEq, Int.reduceBNe, Nat.reduceBEq, ptr, evn])
  refine wcall_slice ((naturalC cb 6 (by decide)).codesT) rfl rfl ?_
  rintro sa ⟨m, hsa, hm⟩
  have ha := hsa
  obtain ⟨aA, cA, zA, rA, yA, rfl, _⟩ := hsa
  simp -implicitDefEqProofs only [evr, id, reduceCtorEq, reduceIte, Nat.reduceMul, Nat.reduceAdd, Nat.reduceLT, Nat.reduceLeDiff, Nat.reduceEqDiff, Int.reduceLT, Int.reduceBEq, Int.reduceBNe, Nat.reduceBEq, ptr, evn]
  refine wcall_slice ((naturalC cb 5 (by decide)).codesT) rfl rfl ?_
  rintro sb ⟨q, hsb, hq⟩
  have hbn := hsb
  obtain ⟨aB, cB, zB, rB, yB, rfl, _⟩ := hsb
  simp -implicitDefEqProofs only [evr, id, reduceCtorEq, reduceIte, Nat.reduceMul, Nat.reduceAdd, Nat.reduceLT, Nat.reduceLeDiff, Nat.reduceEqDiff, Int.reduceLT, Int.reduceBEq, Int.reduceBNe, Nat.reduceBEq, ptr, evn]
  (refine hk _ ?_; clear hk k; try show Sat _ _ _ _ _)
  have m256 := Int.lt_of_lt_of_le hm (pw_mono (show 6 ≤ 256 by decide))
  have q256 := Int.lt_of_lt_of_le hq (pw_mono (show 5 ≤ 256 by decide))
  have m512 := Int.lt_of_lt_of_le hm (pw_mono (show 6 ≤ 512 by decide))
  have q512 := Int.lt_of_lt_of_le hq (pw_mono (show 5 ≤ 512 by decide))
  have hsum : ((m + q : Nat) : Int) < pw 256 := six_add hm hq
  have hpro : ((m * q : Nat) : Int) < pw 256 := six_mul hm hq
  (repeat refine Sat.seq ?_)
  (refine Sat.region_k fun k hk => ?_; simp -implicitDefEqProofs only [evr, id, reduceCtorEq, reduceIte, Nat.reduceMul, Nat.reduceAdd, Nat.reduceLT, Nat.reduceLeDiff, Nat.reduceEqDiff, Int.reduceLT, Int.reduceBEq, Int.reduceBNe, Nat.reduceBEq, ptr, evn])
  refine wcall_slice (natAdd2C (FrC cb) ha hbn hsum) rfl rfl ?_
  rintro _ ⟨s1, rfl, hs1⟩
  have hn1 := hs1
  obtain ⟨a1, c1, z1, r1, x1, rfl, _⟩ := hs1
  simp -implicitDefEqProofs only [evr, id, reduceCtorEq, reduceIte, Nat.reduceMul, Nat.reduceAdd, Nat.reduceLT, Nat.reduceLeDiff, Nat.reduceEqDiff, Int.reduceLT, Int.reduceBEq, Int.reduceBNe, Nat.reduceBEq, ptr, evn]
  (refine hk _ ?_; clear hk k; try show Sat _ _ _ _ _)
  (repeat refine Sat.seq ?_)
  (refine Sat.region_k fun k hk => ?_; simp -implicitDefEqProofs only [evr, id, reduceCtorEq, reduceIte, Nat.reduceMul, Nat.reduceAdd, Nat.reduceLT, Nat.reduceLeDiff, Nat.reduceEqDiff, Int.reduceLT, Int.reduceBEq, Int.reduceBNe, Nat.reduceBEq, ptr, evn])
  refine wcall_slice (refAdd2C (FrC cb) ha hbn m512 q512) rfl rfl ?_
  rintro _ ⟨s2, rfl, hs2⟩
  have hn2 := hs2
  obtain ⟨a2, c2, z2, r2, x2, rfl, _⟩ := hs2
  simp -implicitDefEqProofs only [evr, id, reduceCtorEq, reduceIte, Nat.reduceMul, Nat.reduceAdd, Nat.reduceLT, Nat.reduceLeDiff, Nat.reduceEqDiff, Int.reduceLT, Int.reduceBEq, Int.reduceBNe, Nat.reduceBEq, ptr, evn]
  (refine hk _ ?_; clear hk k; try show Sat _ _ _ _ _)
  (repeat refine Sat.seq ?_)
  (refine Sat.region_k fun k hk => ?_; simp -implicitDefEqProofs only [evr, id, reduceCtorEq, reduceIte, Nat.reduceMul, Nat.reduceAdd, Nat.reduceLT, Nat.reduceLeDiff, Nat.reduceEqDiff, Int.reduceLT, Int.reduceBEq, Int.reduceBNe, Nat.reduceBEq, ptr, evn])
  refine wcall_plain (sameTC (FrC cb) _ hn1 hn2) rfl (by rintro _ rfl; exact ok_plain rfl) ?_
  rintro _ rfl
  simp -implicitDefEqProofs only [evr, id, reduceCtorEq, reduceIte, Nat.reduceMul, Nat.reduceAdd, Nat.reduceLT, Nat.reduceLeDiff, Nat.reduceEqDiff, Int.reduceLT, Int.reduceBEq, Int.reduceBNe, Nat.reduceBEq, ptr, evn]
  (refine hk _ ?_; clear hk k; try show Sat _ _ _ _ _)
  refine Sat.cond_b rfl (fun h => absurd h (by decide)) (fun _ => ?_)
  refine Sat.skip ?_
  simp only [thenK]
  (repeat refine Sat.seq ?_)
  (refine Sat.region_k fun k hk => ?_; simp -implicitDefEqProofs only [evr, id, reduceCtorEq, reduceIte, Nat.reduceMul, Nat.reduceAdd, Nat.reduceLT, Nat.reduceLeDiff, Nat.reduceEqDiff, Int.reduceLT, Int.reduceBEq, Int.reduceBNe, Nat.reduceBEq, ptr, evn])
  refine wcall_slice (natSub2C (FrC cb) ha hbn m256) rfl rfl ?_
  rintro _ ⟨s3, rfl, hs3⟩
  have hn3 := hs3
  obtain ⟨a3, c3, z3, r3, x3, rfl, _⟩ := hs3
  simp -implicitDefEqProofs only [evr, id, reduceCtorEq, reduceIte, Nat.reduceMul, Nat.reduceAdd, Nat.reduceLT, Nat.reduceLeDiff, Nat.reduceEqDiff, Int.reduceLT, Int.reduceBEq, Int.reduceBNe, Nat.reduceBEq, ptr, evn]
  (refine hk _ ?_; clear hk k; try show Sat _ _ _ _ _)
  (repeat refine Sat.seq ?_)
  (refine Sat.region_k fun k hk => ?_; simp -implicitDefEqProofs only [evr, id, reduceCtorEq, reduceIte, Nat.reduceMul, Nat.reduceAdd, Nat.reduceLT, Nat.reduceLeDiff, Nat.reduceEqDiff, Int.reduceLT, Int.reduceBEq, Int.reduceBNe, Nat.reduceBEq, ptr, evn])
  refine wcall_slice (refSub2C (FrC cb) ha hbn m512) rfl rfl ?_
  rintro _ ⟨s4, rfl, hs4⟩
  have hn4 := hs4
  obtain ⟨a4, c4, z4, r4, x4, rfl, _⟩ := hs4
  simp -implicitDefEqProofs only [evr, id, reduceCtorEq, reduceIte, Nat.reduceMul, Nat.reduceAdd, Nat.reduceLT, Nat.reduceLeDiff, Nat.reduceEqDiff, Int.reduceLT, Int.reduceBEq, Int.reduceBNe, Nat.reduceBEq, ptr, evn]
  (refine hk _ ?_; clear hk k; try show Sat _ _ _ _ _)
  (repeat refine Sat.seq ?_)
  (refine Sat.region_k fun k hk => ?_; simp -implicitDefEqProofs only [evr, id, reduceCtorEq, reduceIte, Nat.reduceMul, Nat.reduceAdd, Nat.reduceLT, Nat.reduceLeDiff, Nat.reduceEqDiff, Int.reduceLT, Int.reduceBEq, Int.reduceBNe, Nat.reduceBEq, ptr, evn])
  refine wcall_plain (sameTC (FrC cb) _ hn3 hn4) rfl (by rintro _ rfl; exact ok_plain rfl) ?_
  rintro _ rfl
  simp -implicitDefEqProofs only [evr, id, reduceCtorEq, reduceIte, Nat.reduceMul, Nat.reduceAdd, Nat.reduceLT, Nat.reduceLeDiff, Nat.reduceEqDiff, Int.reduceLT, Int.reduceBEq, Int.reduceBNe, Nat.reduceBEq, ptr, evn]
  (refine hk _ ?_; clear hk k; try show Sat _ _ _ _ _)
  refine Sat.cond_b rfl (fun h => absurd h (by decide)) (fun _ => ?_)
  refine Sat.skip ?_
  simp only [thenK]
  (repeat refine Sat.seq ?_)
  (refine Sat.region_k fun k hk => ?_; simp -implicitDefEqProofs only [evr, id, reduceCtorEq, reduceIte, Nat.reduceMul, Nat.reduceAdd, Nat.reduceLT, Nat.reduceLeDiff, Nat.reduceEqDiff, Int.reduceLT, Int.reduceBEq, Int.reduceBNe, Nat.reduceBEq, ptr, evn])
  refine wcall_slice (natMul2C (FrC cb) ha hbn m256 q256 hpro) rfl rfl ?_
  rintro _ ⟨s5, rfl, hs5⟩
  have hn5 := hs5
  obtain ⟨a5, c5, z5, r5, x5, rfl, _⟩ := hs5
  simp -implicitDefEqProofs only [evr, id, reduceCtorEq, reduceIte, Nat.reduceMul, Nat.reduceAdd, Nat.reduceLT, Nat.reduceLeDiff, Nat.reduceEqDiff, Int.reduceLT, Int.reduceBEq, Int.reduceBNe, Nat.reduceBEq, ptr, evn]
  (refine hk _ ?_; clear hk k; try show Sat _ _ _ _ _)
  (repeat refine Sat.seq ?_)
  (refine Sat.region_k fun k hk => ?_; simp -implicitDefEqProofs only [evr, id, reduceCtorEq, reduceIte, Nat.reduceMul, Nat.reduceAdd, Nat.reduceLT, Nat.reduceLeDiff, Nat.reduceEqDiff, Int.reduceLT, Int.reduceBEq, Int.reduceBNe, Nat.reduceBEq, ptr, evn])
  refine wcall_slice (refMul2C (FrC cb) ha hbn m512 q512) rfl rfl ?_
  rintro _ ⟨s6, rfl, hs6⟩
  have hn6 := hs6
  obtain ⟨a6, c6, z6, r6, x6, rfl, _⟩ := hs6
  simp -implicitDefEqProofs only [evr, id, reduceCtorEq, reduceIte, Nat.reduceMul, Nat.reduceAdd, Nat.reduceLT, Nat.reduceLeDiff, Nat.reduceEqDiff, Int.reduceLT, Int.reduceBEq, Int.reduceBNe, Nat.reduceBEq, ptr, evn]
  (refine hk _ ?_; clear hk k; try show Sat _ _ _ _ _)
  (repeat refine Sat.seq ?_)
  (refine Sat.region_k fun k hk => ?_; simp -implicitDefEqProofs only [evr, id, reduceCtorEq, reduceIte, Nat.reduceMul, Nat.reduceAdd, Nat.reduceLT, Nat.reduceLeDiff, Nat.reduceEqDiff, Int.reduceLT, Int.reduceBEq, Int.reduceBNe, Nat.reduceBEq, ptr, evn])
  refine wcall_plain (sameTC (FrC cb) _ hn5 hn6) rfl (by rintro _ rfl; exact ok_plain rfl) ?_
  rintro _ rfl
  simp -implicitDefEqProofs only [evr, id, reduceCtorEq, reduceIte, Nat.reduceMul, Nat.reduceAdd, Nat.reduceLT, Nat.reduceLeDiff, Nat.reduceEqDiff, Int.reduceLT, Int.reduceBEq, Int.reduceBNe, Nat.reduceBEq, ptr, evn]
  (refine hk _ ?_; clear hk k; try show Sat _ _ _ _ _)
  refine Sat.cond_b rfl (fun h => absurd h (by decide)) (fun _ => ?_)
  refine Sat.skip ?_
  simp only [thenK]
  (repeat refine Sat.seq ?_)
  (refine Sat.region_k fun k hk => ?_; simp -implicitDefEqProofs only [evr, id, reduceCtorEq, reduceIte, Nat.reduceMul, Nat.reduceAdd, Nat.reduceLT, Nat.reduceLeDiff, Nat.reduceEqDiff, Int.reduceLT, Int.reduceBEq, Int.reduceBNe, Nat.reduceBEq, ptr, evn])
  refine wcall_slice (natDivMod2C (FrC cb) ha hbn m256) rfl rfl ?_
  rintro _ ⟨s7, s8, rfl, hs7, hs8⟩
  have hn7 := hs7
  have hn8 := hs8
  obtain ⟨a7, c7, z7, r7, x7, rfl, _⟩ := hs7
  obtain ⟨a8, c8, z8, r8, x8, rfl, _⟩ := hs8
  simp -implicitDefEqProofs only [evr, id, reduceCtorEq, reduceIte, Nat.reduceMul, Nat.reduceAdd, Nat.reduceLT, Nat.reduceLeDiff, Nat.reduceEqDiff, Int.reduceLT, Int.reduceBEq, Int.reduceBNe, Nat.reduceBEq, ptr, evn]
  (refine hk _ ?_; clear hk k; try show Sat _ _ _ _ _)
  (repeat refine Sat.seq ?_)
  (refine Sat.region_k fun k hk => ?_; simp -implicitDefEqProofs only [evr, id, reduceCtorEq, reduceIte, Nat.reduceMul, Nat.reduceAdd, Nat.reduceLT, Nat.reduceLeDiff, Nat.reduceEqDiff, Int.reduceLT, Int.reduceBEq, Int.reduceBNe, Nat.reduceBEq, ptr, evn])
  refine wcall_slice (refDivMod2C (FrC cb) ha hbn m256 q256) rfl rfl ?_
  rintro _ ⟨s9, s10, rfl, hs9, hs10⟩
  have hn9 := hs9
  have hn10 := hs10
  obtain ⟨a9, c9, z9, r9, x9, rfl, _⟩ := hs9
  obtain ⟨a10, c10, z10, r10, x10, rfl, _⟩ := hs10
  simp -implicitDefEqProofs only [evr, id, reduceCtorEq, reduceIte, Nat.reduceMul, Nat.reduceAdd, Nat.reduceLT, Nat.reduceLeDiff, Nat.reduceEqDiff, Int.reduceLT, Int.reduceBEq, Int.reduceBNe, Nat.reduceBEq, ptr, evn]
  (refine hk _ ?_; clear hk k; try show Sat _ _ _ _ _)
  (repeat refine Sat.seq ?_)
  (refine Sat.region_k fun k hk => ?_; simp -implicitDefEqProofs only [evr, id, reduceCtorEq, reduceIte, Nat.reduceMul, Nat.reduceAdd, Nat.reduceLT, Nat.reduceLeDiff, Nat.reduceEqDiff, Int.reduceLT, Int.reduceBEq, Int.reduceBNe, Nat.reduceBEq, ptr, evn])
  refine wcall_plain (sameTC (FrC cb) _ hn7 hn9) rfl (by rintro _ rfl; exact ok_plain rfl) ?_
  rintro _ rfl
  simp -implicitDefEqProofs only [evr, id, reduceCtorEq, reduceIte, Nat.reduceMul, Nat.reduceAdd, Nat.reduceLT, Nat.reduceLeDiff, Nat.reduceEqDiff, Int.reduceLT, Int.reduceBEq, Int.reduceBNe, Nat.reduceBEq, ptr, decide_true, beq_self_eq_true, mkB_toList, bne_self_eq_false, Bool.not_true, evn]
  refine wcall_plain (sameNatC (FrC cb) hn8 hn10) rfl (by rintro _ rfl; exact ok_plain rfl) ?_
  rintro _ rfl
  simp -implicitDefEqProofs only [evr, id, reduceCtorEq, reduceIte, Nat.reduceMul, Nat.reduceAdd, Nat.reduceLT, Nat.reduceLeDiff, Nat.reduceEqDiff, Int.reduceLT, Int.reduceBEq, Int.reduceBNe, Nat.reduceBEq, ptr, decide_true, beq_self_eq_true, mkB_toList, bne_self_eq_false, Bool.not_true, evn]
  refine wcall_slice (gcdC (FrC cb) ha hbn m256 q256) rfl rfl ?_
  intro s11 hs11
  have hn11 := hs11
  obtain ⟨a11, c11, z11, r11, x11, rfl, _⟩ := hs11
  simp -implicitDefEqProofs only [evr, id, reduceCtorEq, reduceIte, Nat.reduceMul, Nat.reduceAdd, Nat.reduceLT, Nat.reduceLeDiff, Nat.reduceEqDiff, Int.reduceLT, Int.reduceBEq, Int.reduceBNe, Nat.reduceBEq, ptr, evn]
  refine wcall_slice (refGcd2C (FrC cb) ha hbn m256 q256) rfl rfl ?_
  intro s12 hs12
  have hn12 := hs12
  obtain ⟨a12, c12, z12, r12, x12, rfl, _⟩ := hs12
  simp -implicitDefEqProofs only [evr, id, reduceCtorEq, reduceIte, Nat.reduceMul, Nat.reduceAdd, Nat.reduceLT, Nat.reduceLeDiff, Nat.reduceEqDiff, Int.reduceLT, Int.reduceBEq, Int.reduceBNe, Nat.reduceBEq, ptr, evn]
  refine wcall_plain (sameNatC (FrC cb) hn11 hn12) rfl (by rintro _ rfl; exact ok_plain rfl) ?_
  rintro _ rfl
  simp -implicitDefEqProofs only [evr, id, reduceCtorEq, reduceIte, Nat.reduceMul, Nat.reduceAdd, Nat.reduceLT, Nat.reduceLeDiff, Nat.reduceEqDiff, Int.reduceLT, Int.reduceBEq, Int.reduceBNe, Nat.reduceBEq, ptr, decide_true, beq_self_eq_true, mkB_toList, bne_self_eq_false, Bool.not_true, evn]
  refine wcall_plain (natCmpC (FrC cb) ha hbn) rfl (by rintro _ rfl; exact ok_plain rfl) ?_
  rintro _ rfl
  simp -implicitDefEqProofs only [evr, id, reduceCtorEq, reduceIte, Nat.reduceMul, Nat.reduceAdd, Nat.reduceLT, Nat.reduceLeDiff, Nat.reduceEqDiff, Int.reduceLT, Int.reduceBEq, Int.reduceBNe, Nat.reduceBEq, ptr, decide_true, beq_self_eq_true, mkB_toList, bne_self_eq_false, Bool.not_true, evn]
  refine wcall_plain (refCompareC (FrC cb) ha hbn m512) rfl (by rintro _ rfl; exact ok_plain rfl) ?_
  rintro _ rfl
  simp -implicitDefEqProofs only [evr, id, reduceCtorEq, reduceIte, Nat.reduceMul, Nat.reduceAdd, Nat.reduceLT, Nat.reduceLeDiff, Nat.reduceEqDiff, Int.reduceLT, Int.reduceBEq, Int.reduceBNe, Nat.reduceBEq, ptr, decide_true, beq_self_eq_true, mkB_toList, bne_self_eq_false, Bool.not_true, evn]
  refine wcall_plain (textAC ha hm cb) rfl (by rintro _ rfl; exact ok_plain rfl) ?_
  rintro _ rfl
  simp -implicitDefEqProofs only [evr, id, reduceCtorEq, reduceIte, Nat.reduceMul, Nat.reduceAdd, Nat.reduceLT, Nat.reduceLeDiff, Nat.reduceEqDiff, Int.reduceLT, Int.reduceBEq, Int.reduceBNe, Nat.reduceBEq, ptr, decide_true, beq_self_eq_true, mkB_toList, bne_self_eq_false, Bool.not_true, evn]
  refine wcall_plain (refTextC (FrC cb) ha (six_two hm) m256) rfl (by rintro _ rfl; exact ok_plain rfl) ?_
  rintro _ rfl
  simp -implicitDefEqProofs only [evr, id, reduceCtorEq, reduceIte, Nat.reduceMul, Nat.reduceAdd, Nat.reduceLT, Nat.reduceLeDiff, Nat.reduceEqDiff, Int.reduceLT, Int.reduceBEq, Int.reduceBNe, Nat.reduceBEq, ptr, decide_true, beq_self_eq_true, mkB_toList, bne_self_eq_false, Bool.not_true, evn]
  (refine hk _ ?_; clear hk k; try show Sat _ _ _ _ _)
  refine Sat.cond_b rfl (fun h => absurd h (by decide)) (fun _ => ?_)
  refine Sat.skip ?_
  simp only [thenK]
  (repeat refine Sat.seq ?_)
  (refine Sat.region_k fun k hk => ?_; simp -implicitDefEqProofs only [evr, id, reduceCtorEq, reduceIte, Nat.reduceMul, Nat.reduceAdd, Nat.reduceLT, Nat.reduceLeDiff, Nat.reduceEqDiff, Int.reduceLT, Int.reduceBEq, Int.reduceBNe, Nat.reduceBEq, ptr, evn])
  refine wcall_plain ((nextC cb 9 (by decide) (by decide)).codesT) rfl (by rintro _ ⟨x, rfl, _⟩; exact ok_plain rfl) ?_
  rintro _ ⟨y0, rfl, _⟩
  simp -implicitDefEqProofs only [evr, id, reduceCtorEq, reduceIte, Nat.reduceMul, Nat.reduceAdd, Nat.reduceLT, Nat.reduceLeDiff, Nat.reduceEqDiff, Int.reduceLT, Int.reduceBEq, Int.reduceBNe, Nat.reduceBEq, ptr, evn]
  intro blk
  (refine hk _ ?_; clear hk k; try show Sat _ _ _ _ _)
  refine Sat.settle2 169 rfl rfl ?_
  simp -implicitDefEqProofs only [evr, id, reduceCtorEq, reduceIte, Nat.reduceMul, Nat.reduceAdd, Nat.reduceLT, Nat.reduceLeDiff, Nat.reduceEqDiff, Int.reduceLT, Int.reduceBEq, Int.reduceBNe, Nat.reduceBEq, ptr, evn]
  (repeat refine Sat.seq ?_)
  refine Sat.block ?_
  (repeat refine Sat.seq ?_)
  refine Sat.loop (ι := Nat) (fun j => ⟨291, [(171, .i .i64 j), (170, .i .i64 5), (169, .sl (some ⟨blk, 0, none⟩) 5 5 1 (rdL [SV.i .i64 k0, .i .i64 y0, .i .i64 (-1), .i .i64 65536, .i .i64 65537] 1)), (12, .sl aA yA.length cA zA rA), (11, ptr cb), (2, .i .i64 n), (1, .sl ra raw.length rc rs rr), (4, sB l)], []⟩)
    (fun j => j ≤ 5) (fun j => 5 - j) 0 (Nat.zero_le _) (by
      simp -implicitDefEqProofs only [evr, id, reduceCtorEq, reduceIte, Nat.reduceMul, Nat.reduceAdd, Nat.reduceLT, Nat.reduceLeDiff, Nat.reduceEqDiff, Int.reduceLT, Int.reduceBEq, Int.reduceBNe, Nat.reduceBEq, ptr, evl, evn]
      repeat' (first | rfl | (refine And.intro ?_ ?_))) ?_
  intro j hj
  (repeat refine Sat.seq ?_)
  (refine Sat.region_k fun k hk => ?_; simp -implicitDefEqProofs only [evr, id, reduceCtorEq, reduceIte, Nat.reduceMul, Nat.reduceAdd, Nat.reduceLT, Nat.reduceLeDiff, Nat.reduceEqDiff, Int.reduceLT, Int.reduceBEq, Int.reduceBNe, Nat.reduceBEq, ptr, evn]; refine hk _ ?_; clear hk k; try show Sat _ _ _ _ _)
  (repeat refine Sat.seq ?_)
  refine Sat.cond_b rfl (fun h => ?_) (fun h => ?_)
  · have hj5 : j < 5 := by have := of_decide_eq_true h; omega
    obtain ⟨i, hi⟩ := cell_at k0 y0 hj5
    have ej : IntKind.i64.wrap ((j : Int) + 1) = ((j + 1 : Nat) : Int) := by rw [w64 (by omega)]; omega
    refine Sat.skip ?_
    simp only [thenK]
    (repeat refine Sat.seq ?_)
    refine Sat.block ?_
    (repeat refine Sat.seq ?_)
    (refine Sat.region_k fun k hk => ?_; simp -implicitDefEqProofs only [evr, id, reduceCtorEq, reduceIte, Nat.reduceMul, Nat.reduceAdd, Nat.reduceLT, Nat.reduceLeDiff, Nat.reduceEqDiff, Int.reduceLT, Int.reduceBEq, Int.reduceBNe, Nat.reduceBEq, ptr, evn])
    refine ⟨by omega, ?_⟩
    rw [hi]
    (refine hk _ ?_; clear hk k; try show Sat _ _ _ _ _)
    (repeat refine Sat.seq ?_)
    (refine Sat.region_k fun k hk => ?_; simp -implicitDefEqProofs only [evr, id, reduceCtorEq, reduceIte, Nat.reduceMul, Nat.reduceAdd, Nat.reduceLT, Nat.reduceLeDiff, Nat.reduceEqDiff, Int.reduceLT, Int.reduceBEq, Int.reduceBNe, Nat.reduceBEq, ptr, evn])
    refine wcall_slice (natPow2C (FrC cb) i ha m256) rfl rfl ?_
    rintro _ ⟨s13, rfl, hs13⟩
    have hn13 := hs13
    obtain ⟨a13, c13, z13, r13, x13, rfl, _⟩ := hs13
    simp -implicitDefEqProofs only [evr, id, reduceCtorEq, reduceIte, Nat.reduceMul, Nat.reduceAdd, Nat.reduceLT, Nat.reduceLeDiff, Nat.reduceEqDiff, Int.reduceLT, Int.reduceBEq, Int.reduceBNe, Nat.reduceBEq, ptr, evn]
    (refine hk _ ?_; clear hk k; try show Sat _ _ _ _ _)
    (repeat refine Sat.seq ?_)
    (refine Sat.region_k fun k hk => ?_; simp -implicitDefEqProofs only [evr, id, reduceCtorEq, reduceIte, Nat.reduceMul, Nat.reduceAdd, Nat.reduceLT, Nat.reduceLeDiff, Nat.reduceEqDiff, Int.reduceLT, Int.reduceBEq, Int.reduceBNe, Nat.reduceBEq, ptr, evn])
    refine wcall_slice (refPow2C (FrC cb) i ha m256) rfl rfl ?_
    rintro _ ⟨s14, rfl, hs14⟩
    have hn14 := hs14
    obtain ⟨a14, c14, z14, r14, x14, rfl, _⟩ := hs14
    simp -implicitDefEqProofs only [evr, id, reduceCtorEq, reduceIte, Nat.reduceMul, Nat.reduceAdd, Nat.reduceLT, Nat.reduceLeDiff, Nat.reduceEqDiff, Int.reduceLT, Int.reduceBEq, Int.reduceBNe, Nat.reduceBEq, ptr, evn]
    (refine hk _ ?_; clear hk k; try show Sat _ _ _ _ _)
    (repeat refine Sat.seq ?_)
    (refine Sat.region_k fun k hk => ?_; simp -implicitDefEqProofs only [evr, id, reduceCtorEq, reduceIte, Nat.reduceMul, Nat.reduceAdd, Nat.reduceLT, Nat.reduceLeDiff, Nat.reduceEqDiff, Int.reduceLT, Int.reduceBEq, Int.reduceBNe, Nat.reduceBEq, ptr, evn])
    refine wcall_plain (sameTC (FrC cb) _ hn13 hn14) rfl (by rintro _ rfl; exact ok_plain rfl) ?_
    rintro _ rfl
    simp -implicitDefEqProofs only [evr, id, reduceCtorEq, reduceIte, Nat.reduceMul, Nat.reduceAdd, Nat.reduceLT, Nat.reduceLeDiff, Nat.reduceEqDiff, Int.reduceLT, Int.reduceBEq, Int.reduceBNe, Nat.reduceBEq, ptr, evn]
    (refine hk _ ?_; clear hk k; try show Sat _ _ _ _ _)
    refine Sat.cond_b rfl (fun h => absurd h (by decide)) (fun _ => ?_)
    refine Sat.skip ?_
    simp only [thenK]
    (repeat refine Sat.seq ?_)
    (refine Sat.region_k fun k hk => ?_; simp -implicitDefEqProofs only [evr, id, reduceCtorEq, reduceIte, Nat.reduceMul, Nat.reduceAdd, Nat.reduceLT, Nat.reduceLeDiff, Nat.reduceEqDiff, Int.reduceLT, Int.reduceBEq, Int.reduceBNe, Nat.reduceBEq, ptr, evn])
    refine wcall_slice (natChoose2C (FrC cb) n i) rfl rfl ?_
    rintro _ ⟨s15, rfl, hs15⟩
    have hn15 := hs15
    obtain ⟨a15, c15, z15, r15, x15, rfl, _⟩ := hs15
    simp -implicitDefEqProofs only [evr, id, reduceCtorEq, reduceIte, Nat.reduceMul, Nat.reduceAdd, Nat.reduceLT, Nat.reduceLeDiff, Nat.reduceEqDiff, Int.reduceLT, Int.reduceBEq, Int.reduceBNe, Nat.reduceBEq, ptr, evn]
    (refine hk _ ?_; clear hk k; try show Sat _ _ _ _ _)
    (repeat refine Sat.seq ?_)
    (refine Sat.region_k fun k hk => ?_; simp -implicitDefEqProofs only [evr, id, reduceCtorEq, reduceIte, Nat.reduceMul, Nat.reduceAdd, Nat.reduceLT, Nat.reduceLeDiff, Nat.reduceEqDiff, Int.reduceLT, Int.reduceBEq, Int.reduceBNe, Nat.reduceBEq, ptr, evn])
    refine wcall_slice (refChoose2C (FrC cb) n i) rfl rfl ?_
    rintro _ ⟨s16, rfl, hs16⟩
    have hn16 := hs16
    obtain ⟨a16, c16, z16, r16, x16, rfl, _⟩ := hs16
    simp -implicitDefEqProofs only [evr, id, reduceCtorEq, reduceIte, Nat.reduceMul, Nat.reduceAdd, Nat.reduceLT, Nat.reduceLeDiff, Nat.reduceEqDiff, Int.reduceLT, Int.reduceBEq, Int.reduceBNe, Nat.reduceBEq, ptr, evn]
    (refine hk _ ?_; clear hk k; try show Sat _ _ _ _ _)
    (repeat refine Sat.seq ?_)
    (refine Sat.region_k fun k hk => ?_; simp -implicitDefEqProofs only [evr, id, reduceCtorEq, reduceIte, Nat.reduceMul, Nat.reduceAdd, Nat.reduceLT, Nat.reduceLeDiff, Nat.reduceEqDiff, Int.reduceLT, Int.reduceBEq, Int.reduceBNe, Nat.reduceBEq, ptr, evn])
    refine wcall_plain (sameTC (FrC cb) _ hn15 hn16) rfl (by rintro _ rfl; exact ok_plain rfl) ?_
    rintro _ rfl
    simp -implicitDefEqProofs only [evr, id, reduceCtorEq, reduceIte, Nat.reduceMul, Nat.reduceAdd, Nat.reduceLT, Nat.reduceLeDiff, Nat.reduceEqDiff, Int.reduceLT, Int.reduceBEq, Int.reduceBNe, Nat.reduceBEq, ptr, evn]
    (refine hk _ ?_; clear hk k; try show Sat _ _ _ _ _)
    refine Sat.cond_b rfl (fun h => absurd h (by decide)) (fun _ => ?_)
    refine Sat.skip ?_
    simp only [thenK]
    (repeat refine Sat.seq ?_)
    (refine Sat.region_k fun k hk => ?_; simp -implicitDefEqProofs only [evr, id, reduceCtorEq, reduceIte, Nat.reduceMul, Nat.reduceAdd, Nat.reduceLT, Nat.reduceLeDiff, Nat.reduceEqDiff, Int.reduceLT, Int.reduceBEq, Int.reduceBNe, Nat.reduceBEq, ptr, evn])
    refine wcall_plain ((nextC cb 70 (by decide) (by decide)).codesT) rfl (by rintro _ ⟨x, rfl, _⟩; exact ok_plain rfl) ?_
    rintro _ ⟨y1, rfl, hy1, hy2⟩
    simp -implicitDefEqProofs only [evr, id, reduceCtorEq, reduceIte, Nat.reduceMul, Nat.reduceAdd, Nat.reduceLT, Nat.reduceLeDiff, Nat.reduceEqDiff, Int.reduceLT, Int.reduceBEq, Int.reduceBNe, Nat.reduceBEq, ptr, evn]
    refine wcall_slice (natChoose2C (FrC cb) y1 i) rfl rfl ?_
    rintro _ ⟨s17, rfl, hs17⟩
    have hn17 := hs17
    obtain ⟨a17, c17, z17, r17, x17, rfl, _⟩ := hs17
    simp -implicitDefEqProofs only [evr, id, reduceCtorEq, reduceIte, Nat.reduceMul, Nat.reduceAdd, Nat.reduceLT, Nat.reduceLeDiff, Nat.reduceEqDiff, Int.reduceLT, Int.reduceBEq, Int.reduceBNe, Nat.reduceBEq, ptr, evn]
    (refine hk _ ?_; clear hk k; try show Sat _ _ _ _ _)
    (repeat refine Sat.seq ?_)
    refine Sat.region_at ⟨291, [(226, .b false), (171, .i .i64 j), (170, .i .i64 5), (169, .sl (some ⟨blk, 0, none⟩) 5 5 1 (rdL [SV.i .i64 k0, .i .i64 y0, .i .i64 (-1), .i .i64 65536, .i .i64 65537] 1)), (12, .sl aA yA.length cA zA rA), (11, ptr cb), (2, .i .i64 n), (1, .sl ra raw.length rc rs rr), (4, sB l)], []⟩ (fun k hk => ?_) ?_
    · simp -implicitDefEqProofs only [evr, id, reduceCtorEq, reduceIte, Nat.reduceMul, Nat.reduceAdd, Nat.reduceLT, Nat.reduceLeDiff, Nat.reduceEqDiff, Int.reduceLT, Int.reduceBEq, Int.reduceBNe, Nat.reduceBEq, ptr, evn]
      have hE : ((((chE y1 i : Nat) : Int) == 0)) = (decide (0 ≤ i) && decide (i ≤ 1024)) := by
        unfold chE
        by_cases h8 : y1 < 0 ∨ 1024 < y1 ∨ i < 0 ∨ 1024 < i
        · rw [if_pos h8]
          by_cases h7 : 0 ≤ i
          · rw [decide_eq_false (show ¬ i ≤ 1024 by omega), Bool.and_false]; rfl
          · rw [decide_eq_false h7]; rfl
        · rw [if_neg h8, decide_eq_true (show 0 ≤ i by omega), decide_eq_true (show i ≤ 1024 by omega)]; rfl
      simp only [hE]
      refine ⟨fun h8 => ?_, fun h8 => ?_⟩
      · refine hk _ ?_
        rw [decide_eq_true h8, Bool.true_and]
        simp -implicitDefEqProofs only [evr, id, reduceCtorEq, reduceIte, Nat.reduceMul, Nat.reduceAdd, Nat.reduceLT, Nat.reduceLeDiff, Nat.reduceEqDiff, Int.reduceLT, Int.reduceBEq, Int.reduceBNe, Nat.reduceBEq, ptr, bne_self_eq_false, evn]
        simp -implicitDefEqProofs only [evr, id, reduceCtorEq, reduceIte, Nat.reduceMul, Nat.reduceAdd, Nat.reduceLT, Nat.reduceLeDiff, Nat.reduceEqDiff, Int.reduceLT, Int.reduceBEq, Int.reduceBNe, Nat.reduceBEq, ptr, evl, evn]
        repeat' (first | rfl | (refine And.intro ?_ ?_))
      · refine hk _ ?_
        rw [decide_eq_false h8, Bool.false_and]
        simp -implicitDefEqProofs only [evr, id, reduceCtorEq, reduceIte, Nat.reduceMul, Nat.reduceAdd, Nat.reduceLT, Nat.reduceLeDiff, Nat.reduceEqDiff, Int.reduceLT, Int.reduceBEq, Int.reduceBNe, Nat.reduceBEq, ptr, evl, evn]
        repeat' (first | rfl | (refine And.intro ?_ ?_))
    simp only [thenK]
    refine Sat.cond_b rfl (fun h => absurd h (by decide)) (fun _ => ?_)
    refine Sat.skip ?_
    simp only [thenK, blockK]
    refine Sat.region_k fun k hk => ?_
    simp -implicitDefEqProofs only [evr, id, reduceCtorEq, reduceIte, Nat.reduceMul, Nat.reduceAdd, Nat.reduceLT, Nat.reduceLeDiff, Nat.reduceEqDiff, Int.reduceLT, Int.reduceBEq, Int.reduceBNe, Nat.reduceBEq, ptr, ej, evn]
    refine hk _ ?_
    simp only [thenK, blockK]
    refine ⟨j + 1, by show j + 1 ≤ 5; omega, by omega, ?_⟩
    simp -implicitDefEqProofs only [evr, id, reduceCtorEq, reduceIte, Nat.reduceMul, Nat.reduceAdd, Nat.reduceLT, Nat.reduceLeDiff, Nat.reduceEqDiff, Int.reduceLT, Int.reduceBEq, Int.reduceBNe, Nat.reduceBEq, ptr, evl, evn]
    repeat' (first | rfl | (refine And.intro ?_ ?_))
  · refine Sat.exit ?_
    simp only [thenK, blockK, reduceIte]
    (repeat refine Sat.seq ?_)
    (refine Sat.region_k fun k hk => ?_; simp -implicitDefEqProofs only [evr, id, reduceCtorEq, reduceIte, Nat.reduceMul, Nat.reduceAdd, Nat.reduceLT, Nat.reduceLeDiff, Nat.reduceEqDiff, Int.reduceLT, Int.reduceBEq, Int.reduceBNe, Nat.reduceBEq, ptr, evn])
    refine wcall_slice (natFrom2C (FrC cb) n hnb) rfl rfl ?_
    rintro _ ⟨s18, rfl, hs18⟩
    have hn18 := hs18
    obtain ⟨a18, c18, z18, r18, x18, rfl, _⟩ := hs18
    simp -implicitDefEqProofs only [evr, id, reduceCtorEq, reduceIte, Nat.reduceMul, Nat.reduceAdd, Nat.reduceLT, Nat.reduceLeDiff, Nat.reduceEqDiff, Int.reduceLT, Int.reduceBEq, Int.reduceBNe, Nat.reduceBEq, ptr, evn]
    (refine hk _ ?_; clear hk k; try show Sat _ _ _ _ _)
    (repeat refine Sat.seq ?_)
    (refine Sat.region_k fun k hk => ?_; simp -implicitDefEqProofs only [evr, id, reduceCtorEq, reduceIte, Nat.reduceMul, Nat.reduceAdd, Nat.reduceLT, Nat.reduceLeDiff, Nat.reduceEqDiff, Int.reduceLT, Int.reduceBEq, Int.reduceBNe, Nat.reduceBEq, ptr, evn])
    refine wcall_slice (refFrom2C (FrC cb) n hnb) rfl rfl ?_
    rintro _ ⟨s19, rfl, hs19⟩
    have hn19 := hs19
    obtain ⟨a19, c19, z19, r19, x19, rfl, _⟩ := hs19
    simp -implicitDefEqProofs only [evr, id, reduceCtorEq, reduceIte, Nat.reduceMul, Nat.reduceAdd, Nat.reduceLT, Nat.reduceLeDiff, Nat.reduceEqDiff, Int.reduceLT, Int.reduceBEq, Int.reduceBNe, Nat.reduceBEq, ptr, evn]
    (refine hk _ ?_; clear hk k; try show Sat _ _ _ _ _)
    (repeat refine Sat.seq ?_)
    (refine Sat.region_k fun k hk => ?_; simp -implicitDefEqProofs only [evr, id, reduceCtorEq, reduceIte, Nat.reduceMul, Nat.reduceAdd, Nat.reduceLT, Nat.reduceLeDiff, Nat.reduceEqDiff, Int.reduceLT, Int.reduceBEq, Int.reduceBNe, Nat.reduceBEq, ptr, evn])
    refine wcall_plain (natIntC (FrC cb) ha m512) rfl (by rintro _ rfl; exact ok_tupL rfl) ?_
    rintro _ rfl
    simp -implicitDefEqProofs only [evr, id, reduceCtorEq, reduceIte, Nat.reduceMul, Nat.reduceAdd, Nat.reduceLT, Nat.reduceLeDiff, Nat.reduceEqDiff, Int.reduceLT, Int.reduceBEq, Int.reduceBNe, Nat.reduceBEq, ptr, evn]
    (refine hk _ ?_; clear hk k; try show Sat _ _ _ _ _)
    (repeat refine Sat.seq ?_)
    (refine Sat.region_k fun k hk => ?_; simp -implicitDefEqProofs only [evr, id, reduceCtorEq, reduceIte, Nat.reduceMul, Nat.reduceAdd, Nat.reduceLT, Nat.reduceLeDiff, Nat.reduceEqDiff, Int.reduceLT, Int.reduceBEq, Int.reduceBNe, Nat.reduceBEq, ptr, evn])
    refine wcall_plain (refIntC (FrC cb) ha m512) rfl (by rintro _ rfl; exact ok_tupL rfl) ?_
    rintro _ rfl
    simp -implicitDefEqProofs only [evr, id, reduceCtorEq, reduceIte, Nat.reduceMul, Nat.reduceAdd, Nat.reduceLT, Nat.reduceLeDiff, Nat.reduceEqDiff, Int.reduceLT, Int.reduceBEq, Int.reduceBNe, Nat.reduceBEq, ptr, evn]
    (refine hk _ ?_; clear hk k; try show Sat _ _ _ _ _)
    (repeat refine Sat.seq ?_)
    (refine Sat.region_k fun k hk => ?_; simp -implicitDefEqProofs only [evr, id, reduceCtorEq, reduceIte, Nat.reduceMul, Nat.reduceAdd, Nat.reduceLT, Nat.reduceLeDiff, Nat.reduceEqDiff, Int.reduceLT, Int.reduceBEq, Int.reduceBNe, Nat.reduceBEq, ptr, evn])
    refine wcall_slice (natParseC (FrC cb) l (by omega)) rfl rfl ?_
    rintro _ ⟨s20, rfl, hs20⟩
    have hn20 := hs20
    obtain ⟨a20, c20, z20, r20, x20, rfl, _⟩ := hs20
    simp -implicitDefEqProofs only [evr, id, reduceCtorEq, reduceIte, Nat.reduceMul, Nat.reduceAdd, Nat.reduceLT, Nat.reduceLeDiff, Nat.reduceEqDiff, Int.reduceLT, Int.reduceBEq, Int.reduceBNe, Nat.reduceBEq, ptr, evn]
    (refine hk _ ?_; clear hk k; try show Sat _ _ _ _ _)
    (repeat refine Sat.seq ?_)
    (refine Sat.region_k fun k hk => ?_; simp -implicitDefEqProofs only [evr, id, reduceCtorEq, reduceIte, Nat.reduceMul, Nat.reduceAdd, Nat.reduceLT, Nat.reduceLeDiff, Nat.reduceEqDiff, Int.reduceLT, Int.reduceBEq, Int.reduceBNe, Nat.reduceBEq, ptr, evn])
    refine wcall_slice (refParseC (FrC cb) l (by omega)) rfl rfl ?_
    rintro _ ⟨s21, rfl, hs21⟩
    have hn21 := hs21
    obtain ⟨a21, c21, z21, r21, x21, rfl, _⟩ := hs21
    simp -implicitDefEqProofs only [evr, id, reduceCtorEq, reduceIte, Nat.reduceMul, Nat.reduceAdd, Nat.reduceLT, Nat.reduceLeDiff, Nat.reduceEqDiff, Int.reduceLT, Int.reduceBEq, Int.reduceBNe, Nat.reduceBEq, ptr, evn]
    (refine hk _ ?_; clear hk k; try show Sat _ _ _ _ _)
    (repeat refine Sat.seq ?_)
    (refine Sat.region_k fun k hk => ?_; simp -implicitDefEqProofs only [evr, id, reduceCtorEq, reduceIte, Nat.reduceMul, Nat.reduceAdd, Nat.reduceLT, Nat.reduceLeDiff, Nat.reduceEqDiff, Int.reduceLT, Int.reduceBEq, Int.reduceBNe, Nat.reduceBEq, ptr, evn])
    refine wcall_plain (sameTC (FrC cb) _ hn18 hn19) rfl (by rintro _ rfl; exact ok_plain rfl) ?_
    rintro _ rfl
    simp -implicitDefEqProofs only [evr, id, reduceCtorEq, reduceIte, Nat.reduceMul, Nat.reduceAdd, Nat.reduceLT, Nat.reduceLeDiff, Nat.reduceEqDiff, Int.reduceLT, Int.reduceBEq, Int.reduceBNe, Nat.reduceBEq, ptr, decide_true, beq_self_eq_true, mkB_toList, bne_self_eq_false, Bool.not_true, evn]
    refine wcall_plain (sameTC (FrC cb) _ hn20 hn21) rfl (by rintro _ rfl; exact ok_plain rfl) ?_
    rintro _ rfl
    simp -implicitDefEqProofs only [evr, id, reduceCtorEq, reduceIte, Nat.reduceMul, Nat.reduceAdd, Nat.reduceLT, Nat.reduceLeDiff, Nat.reduceEqDiff, Int.reduceLT, Int.reduceBEq, Int.reduceBNe, Nat.reduceBEq, ptr, decide_true, beq_self_eq_true, mkB_toList, bne_self_eq_false, Bool.not_true, evn]
    refine wcall_plain (natValidLC (FrC cb) hraw (by omega)) rfl (by rintro _ rfl; exact ok_plain rfl) ?_
    rintro _ rfl
    simp -implicitDefEqProofs only [evr, id, reduceCtorEq, reduceIte, Nat.reduceMul, Nat.reduceAdd, Nat.reduceLT, Nat.reduceLeDiff, Nat.reduceEqDiff, Int.reduceLT, Int.reduceBEq, Int.reduceBNe, Nat.reduceBEq, ptr, decide_true, beq_self_eq_true, mkB_toList, bne_self_eq_false, Bool.not_true, evn]
    refine wcall_plain (refValidLC (FrC cb) hraw (by omega)) rfl (by rintro _ rfl; exact ok_plain rfl) ?_
    rintro _ rfl
    simp -implicitDefEqProofs only [evr, id, reduceCtorEq, reduceIte, Nat.reduceMul, Nat.reduceAdd, Nat.reduceLT, Nat.reduceLeDiff, Nat.reduceEqDiff, Int.reduceLT, Int.reduceBEq, Int.reduceBNe, Nat.reduceBEq, ptr, decide_true, beq_self_eq_true, mkB_toList, bne_self_eq_false, Bool.not_true, evn]
    refine wcall_plain (natValidTC (FrC cb) ha m256) rfl (by rintro _ rfl; exact ok_plain rfl) ?_
    rintro _ rfl
    simp -implicitDefEqProofs only [evr, id, reduceCtorEq, reduceIte, Nat.reduceMul, Nat.reduceAdd, Nat.reduceLT, Nat.reduceLeDiff, Nat.reduceEqDiff, Int.reduceLT, Int.reduceBEq, Int.reduceBNe, Nat.reduceBEq, ptr, decide_true, beq_self_eq_true, mkB_toList, bne_self_eq_false, Bool.not_true, evn]
    (refine hk _ ?_; clear hk k; try show Sat _ _ _ _ _)
    refine Sat.ret ?_
    simp only [Tryz.results3, evr, id, reduceCtorEq, reduceIte, Nat.reduceMul, Nat.reduceAdd, Nat.reduceLT, Nat.reduceLeDiff, Nat.reduceEqDiff, Int.reduceLT, Int.reduceBEq, Int.reduceBNe, Nat.reduceBEq, ptr, List.append_nil, Int.toNat_zero, Nat.sub_self]
    try rfl
open Go.RowKit Go.WideShapes Go.ChangeShapes in
set_option maxRecDepth 100000 in
theorem exact_walk : naturalExact.Walk := by
  intro w hL l0 l1 l2 l3 l4 c0 s0 o0 c1 s1 o1 c2 s2 o2 c3 s3 o3 c4 s4 o4
  obtain ⟨a, cap, z, rd, rfl, hz, hrd⟩ := sh_ints (e := 5) (k := .u8) (by kernel_rfl) (by kernel_rfl) (by kernel_rfl) s0
  obtain ⟨ra, rc, raw, rr, rfl, hraw, hrr⟩ := sh_ints (e := 3) (k := .i64) (by kernel_rfl) (by kernel_rfl) (by kernel_rfl) s1
  obtain ⟨n, rfl, hn⟩ := sh_int (t := 3) (k := .i64) (by kernel_rfl) s2
  obtain ⟨k0, rfl, hk0⟩ := sh_int (t := 3) (k := .i64) (by kernel_rfl) s3
  obtain ⟨st, rfl, _⟩ := sh_string (t := 9) (by kernel_rfl) s4
  obtain ⟨tx, rfl⟩ : ∃ tx, st = mkB tx := ⟨_, (mkB_inj rfl : st = mkB st.data.toList)⟩
  rw [valS_one (by kernel_rfl)] at o0 o1 o2 o3 o4
  rw [valS_one (t := 22) (by kernel_rfl), valS_one (t := 24) (by kernel_rfl), valS_one (t := 3) (by kernel_rfl), valS_one (t := 3) (by kernel_rfl), valS_one (t := 9) (by kernel_rfl)]
  have hT : TxT w := laid_tab hL (by decide +kernel) (by simp [Rows.naturalExactRow]; rfl) (g := 1) (t := 145) (e := 84) (m := 20) (by kernel_rfl) (by kernel_rfl) (by kernel_rfl) (by kernel_rfl) (by kernel_rfl) (by kernel_rfl)
  have bn := bounds_i64 hn
  have hints : Ints (.sl ra raw.length rc 1 rr) raw := ⟨ra, rc, 1, rr, rfl, .inr rfl, fun i hi => hrr i 0 hi (by decide)⟩
  have hc' : Contract FrA Tryz.prog 3 [.sl a z.length cap 1 rd, .sl ra raw.length rc 1 rr, .i .i64 n, .i .i64 k0, sB tx] (fun r => r = .b true) :=
    Contract.of_sim (exactC a cap z hz hints n k0 (by omega) tx) ⟨sim_sl hrd, sim_refl _, sim_refl _, sim_refl _, sim_refl _, trivial⟩
  exact walk_ofT hc' (tx_lt hT) hT (by
    intro s hs
    simp only [List.mem_cons, List.mem_singleton, List.not_mem_nil, or_false] at hs
    rcases hs with rfl | rfl | rfl | rfl | rfl <;> assumption)
end Tq
theorem exact_holds : Rows.NaturalExactCardSaid := naturalExact.card_of_walk Tq.exact_walk
end Go.Proofs.YtabgkfjfmjdfiaaGreatDoor
