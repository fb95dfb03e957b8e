/- It is proved that the statement NaturalTexts holds for every input: numbers come back from their texts, and longer texts are greater numbers. No conditions. -/
import Derived.Test.YtpkmnggfomllhaaDoorPaqE
import Derived.Test.YtpkmnggfomllhaaDoorCdqE
import Derived.Test.YtpkmnggfomllhaaDoorWalkE
import Derived.Test.YtpkmnggfomllhaaDoorShNaturalTexts
set_option linter.unusedSimpArgs false
set_option linter.unusedVariables false
namespace Go.Proofs.YtpkmnggfomllhaaDoor
open Eng Lmb Go.RowKit
theorem slB_bytesR (a : Option Addr) (cap : Nat) (z : List Int) (hz : ∀ n ∈ z, (Lit.int .u8 n).wf = true) : isBytes (slB a cap z) :=
  ⟨a, z.length, cap, _, rfl, fun i hi => ⟨z.getD i 0, by have := bounds_u8 (hz _ (getD_mem (d := 0) hi)); omega, by have := bounds_u8 (hz _ (getD_mem (d := 0) hi)); omega, rfl⟩⟩
theorem nats_one {a : Option Addr} {cap x : Nat} (h0 : 0 < x) (h1 : x < 1073741824) : Nats (.sl a 1 cap 1 (rdL [SV.i .i64 (x : Int)] 1)) x :=
  ⟨a, cap, 1, _, [(x : Int)], rfl, .inr rfl, fun i hi => by
    obtain rfl : i = 0 := by simpa using hi
    rfl, ⟨limbs_cons.2 ⟨by omega, limbs_nil⟩, norm_one.2 (by omega), by simp [Lmb.val]⟩⟩
theorem nats_awake {s : SV} (h : Nats s 1073741824) : ∃ a cap rd, s = .sl a 2 cap 1 rd ∧ rd 1 0 = .i .i64 1 := by
  obtain ⟨a, cap, sz, rd, xs, rfl, hz, hrd, hd⟩ := h
  have hd2 : Dig [0, 1] 1073741824 := ⟨limbs_cons.2 ⟨by omega, limbs_cons.2 ⟨by omega, limbs_nil⟩⟩, norm_cons.2 (norm_one.2 (by decide)), by decide⟩
  have e : xs = [0, 1] := (hd.inj hd2).2 rfl
  subst e
  rcases hz with hz | rfl
  · cases hz
  · exact ⟨a, cap, rd, rfl, hrd 1 (by decide)⟩
set_option maxRecDepth 100000 in
theorem awakeC (F : Frm) : Contract F Tryd.prog 4 [] (fun r => r = .b true) := by
  have hpw : ((1073741823 + 1 : Nat) : Int) < pw 256 := lt_pw (a := 31) (by decide) (by decide)
  refine contract_of Tryd.func4 rfl (by kernel_rfl) ?_
  simp only [Tryd.ntmps4, argEnv]
  (repeat refine Sat.seq ?_)
  (refine Sat.region_k fun k hk => ?_; simp -implicitDefEqProofs only [evr, id, reduceCtorEq, reduceIte, Nat.reduceMul, Nat.reduceAdd, Nat.reduceLT, Nat.reduceLeDiff, Nat.reduceEqDiff, Int.reduceLT, Int.reduceBEq, Int.reduceBNe, Nat.reduceBEq, ptr, evn]; refine hk _ ?_; clear hk k; try show Sat _ _ _ _ _)
  (repeat refine Sat.seq ?_)
  (refine Sat.region_k fun k hk => ?_; simp -implicitDefEqProofs only [evr, id, reduceCtorEq, reduceIte, Nat.reduceMul, Nat.reduceAdd, Nat.reduceLT, Nat.reduceLeDiff, Nat.reduceEqDiff, Int.reduceLT, Int.reduceBEq, Int.reduceBNe, Nat.reduceBEq, ptr, evn])
  intro b1 b2
  refine wcall_slice (addC F (nats_one (a := some ⟨b1, 0, none⟩) (cap := 1) (x := 1073741823) (by decide) (by decide)) (nats_one (a := some ⟨b2, 0, none⟩) (cap := 1) (x := 1) (by decide) (by decide)) hpw) rfl (by simp -implicitDefEqProofs only [evr, id, reduceCtorEq, reduceIte, Nat.reduceMul, Nat.reduceAdd, Nat.reduceLT, Nat.reduceLeDiff, Nat.reduceEqDiff, Int.reduceLT, Int.reduceBEq, Int.reduceBNe, Nat.reduceBEq, ptr, evn]; try rfl) ?_
  rintro r ⟨s, rfl, hs⟩
  obtain ⟨a, cap, rd, rfl, h1⟩ := nats_awake hs
  simp -implicitDefEqProofs only [evr, id, reduceCtorEq, reduceIte, Nat.reduceMul, Nat.reduceAdd, Nat.reduceLT, Nat.reduceLeDiff, Nat.reduceEqDiff, Int.reduceLT, Int.reduceBEq, Int.reduceBNe, Nat.reduceBEq, ptr, evn]
  (refine hk _ ?_; clear hk k; try show Sat _ _ _ _ _)
  have h1' : rd (Int.toNat 1) 0 = .i .i64 1 := h1
  (repeat refine Sat.seq ?_)
  refine Sat.region_k fun k hk => ?_
  simp -implicitDefEqProofs only [evr, id, reduceCtorEq, reduceIte, Nat.reduceMul, Nat.reduceAdd, Nat.reduceLT, Nat.reduceLeDiff, Nat.reduceEqDiff, Int.reduceLT, Int.reduceBEq, Int.reduceBNe, Nat.reduceBEq, ptr, h1', beq_self_eq_true, evn]
  refine ⟨fun _ => ⟨⟨by decide, by decide⟩, ?_⟩, fun h => absurd h (by decide)⟩
  (refine hk _ ?_; clear hk k; try show Sat _ _ _ _ _)
  refine Sat.ret ?_
  simp only [Tryd.results4, evr, id, reduceCtorEq, reduceIte, Nat.reduceMul, Nat.reduceAdd, Nat.reduceLT, Nat.reduceLeDiff, Nat.reduceEqDiff, Int.reduceLT, Int.reduceBEq, Int.reduceBNe, Nat.reduceBEq, ptr, List.append_nil, Int.toNat_zero, Nat.sub_self]
  try rfl
abbrev FrC (cb : Nat) : Frm := Frm.codesT cb (0 + 1) TxT tx_low
def bigK : Nat := 600
theorem bigK_eq : bigK = 600 := rfl
theorem pw20 : pw 20 = ((2 ^ bigK : Nat) : Int) := by
  unfold pw bigK
  decide +kernel
attribute [irreducible] bigK
theorem pow_mono2 (a b : Nat) (h : a ≤ b) : 2 ^ a ≤ 2 ^ b := Nat.pow_le_pow_right (by decide) h
theorem big_le : 2 ^ bigK ≤ 2 ^ 7680 := pow_mono2 bigK 7680 (by rw [bigK_eq]; decide)
theorem big_dec {n : Nat} (h : n < 2 ^ bigK) : (Lib.decDigits n).length ≤ 601 := by
  have := dec_two bigK n h
  rw [bigK_eq] at this
  exact this
set_option maxHeartbeats 1000000 in
set_option maxRecDepth 100000 in
theorem textsC (a : Option Addr) (cap : Nat) (z : List Int) (hz : ∀ n ∈ z, (Lit.int .u8 n).wf = true) : Contract FrA Tryd.prog 3 [slB a cap z] (fun r => r = .b true) := by
  have hb := slB_bytesR a cap z hz
  refine contract_of Tryd.func3 rfl (by kernel_rfl) ?_
  simp only [Tryd.ntmps3, argEnv]
  (repeat refine Sat.seq ?_)
  (refine Sat.region_k fun k hk => ?_; simp -implicitDefEqProofs only [evr, id, reduceCtorEq, reduceIte, Nat.reduceMul, Nat.reduceAdd, Nat.reduceLT, Nat.reduceLeDiff, Nat.reduceEqDiff, Int.reduceLT, Int.reduceBEq, Int.reduceBNe, Nat.reduceBEq, ptr, evn]; refine hk _ ?_; clear hk k; try show Sat _ _ _ _ _)
  (repeat refine Sat.seq ?_)
  (refine Sat.region_k fun k hk => ?_; simp -implicitDefEqProofs only [evr, id, reduceCtorEq, reduceIte, Nat.reduceMul, Nat.reduceAdd, Nat.reduceLT, Nat.reduceLeDiff, Nat.reduceEqDiff, Int.reduceLT, Int.reduceBEq, Int.reduceBNe, Nat.reduceBEq, ptr, evn])
  refine wcall_plain (awakeC FrA) rfl (by rintro _ rfl; exact ok_plain rfl) ?_
  rintro r rfl
  simp -implicitDefEqProofs only [evr, id, reduceCtorEq, reduceIte, Nat.reduceMul, Nat.reduceAdd, Nat.reduceLT, Nat.reduceLeDiff, Nat.reduceEqDiff, Int.reduceLT, Int.reduceBEq, Int.reduceBNe, Nat.reduceBEq, ptr, evn]
  (refine hk _ ?_; clear hk k; try show Sat _ _ _ _ _)
  refine Sat.cond_b rfl (fun h => absurd h (by decide)) (fun _ => ?_)
  refine Sat.skip ?_
  simp only [thenK]
  (repeat refine Sat.seq ?_)
  (refine Sat.region_k fun k hk => ?_; simp -implicitDefEqProofs only [evr, id, reduceCtorEq, reduceIte, Nat.reduceMul, Nat.reduceAdd, Nat.reduceLT, Nat.reduceLeDiff, Nat.reduceEqDiff, Int.reduceLT, Int.reduceBEq, Int.reduceBNe, Nat.reduceBEq, ptr, evn])
  refine wcall_make (newRC (slB a cap z) hb 200 (by decide)) ?_
  intro cb
  simp -implicitDefEqProofs only [evr, id, reduceCtorEq, reduceIte, Nat.reduceMul, Nat.reduceAdd, Nat.reduceLT, Nat.reduceLeDiff, Nat.reduceEqDiff, Int.reduceLT, Int.reduceBEq, Int.reduceBNe, Nat.reduceBEq, ptr, evn]
  (refine hk _ ?_; clear hk k; try show Sat _ _ _ _ _)
  refine Sat.switchT (cb := cb) (id := 0) rfl ?_
  (repeat refine Sat.seq ?_)
  (refine Sat.region_k fun k hk => ?_; simp -implicitDefEqProofs only [evr, id, reduceCtorEq, reduceIte, Nat.reduceMul, Nat.reduceAdd, Nat.reduceLT, Nat.reduceLeDiff, Nat.reduceEqDiff, Int.reduceLT, Int.reduceBEq, Int.reduceBNe, Nat.reduceBEq, ptr, evn])
  refine wcall_slice ((naturalC cb 20 (by decide)).codesT) rfl rfl ?_
  rintro sa ⟨m, hsa, hm⟩
  have ha := hsa
  obtain ⟨a1, c1, z1, r1, y1, rfl, _⟩ := hsa
  simp -implicitDefEqProofs only [evr, id, reduceCtorEq, reduceIte, Nat.reduceMul, Nat.reduceAdd, Nat.reduceLT, Nat.reduceLeDiff, Nat.reduceEqDiff, Int.reduceLT, Int.reduceBEq, Int.reduceBNe, Nat.reduceBEq, ptr, evn]
  refine wcall_slice ((naturalC cb 20 (by decide)).codesT) rfl rfl ?_
  rintro sb ⟨n, hsb, hn⟩
  have hbn := hsb
  obtain ⟨a2, c2, z2, r2, y2, rfl, _⟩ := hsb
  simp -implicitDefEqProofs only [evr, id, reduceCtorEq, reduceIte, Nat.reduceMul, Nat.reduceAdd, Nat.reduceLT, Nat.reduceLeDiff, Nat.reduceEqDiff, Int.reduceLT, Int.reduceBEq, Int.reduceBNe, Nat.reduceBEq, ptr, evn]
  (refine hk _ ?_; clear hk k; try show Sat _ _ _ _ _)
  have hm256 := Int.lt_of_lt_of_le hm (pw_mono (show 20 ≤ 256 by decide))
  have hn256 := Int.lt_of_lt_of_le hn (pw_mono (show 20 ≤ 256 by decide))
  rw [pw20] at hm hn
  have hm2 : m < 2 ^ bigK := Int.ofNat_lt.1 hm
  have hn2 : n < 2 ^ bigK := Int.ofNat_lt.1 hn
  have hle := big_le
  have tA : Contract (FrC cb) Tryd.prog 7 _ _ := (textC ha (Nat.lt_of_lt_of_le hm2 hle) hm256).tabT
  have tB : Contract (FrC cb) Tryd.prog 7 _ _ := (textC hbn (Nat.lt_of_lt_of_le hn2 hle) hn256).tabT
  have lA := big_dec hm2
  have lB := big_dec hn2
  have lA0 := dec_pos m
  obtain ⟨vA, dA⟩ := valD_dec m
  have neA : Lib.decDigits m ≠ [] := fun e => by rw [e] at lA0; simp at lA0
  have h0A : (Lib.decDigits m).length = 1 ∨ (Lib.decDigits m)[0]? ≠ some 48 := by
    rcases Nat.eq_zero_or_pos m with h | h
    · subst h
      left
      rw [dec_small (by decide)]
      rfl
    · exact .inr (dec_head h)
  have pA : Contract (FrC cb) Tryd.prog 8 _ _ := (parseC (Lib.decDigits m) neA dA h0A (by omega) (by rw [vA]; exact hm256)).tabT
  rw [vA] at pA
  have pZ : Contract (FrC cb) Tryd.prog 8 _ _ := (parseZeroC (Lib.decDigits m) neA dA (by omega)).tabT
  (repeat refine Sat.seq ?_)
  (refine Sat.region_k fun k hk => ?_; simp -implicitDefEqProofs only [evr, id, reduceCtorEq, reduceIte, Nat.reduceMul, Nat.reduceAdd, Nat.reduceLT, Nat.reduceLeDiff, Nat.reduceEqDiff, Int.reduceLT, Int.reduceBEq, Int.reduceBNe, Nat.reduceBEq, ptr, evn])
  refine wcall_plain tA rfl (by rintro _ rfl; exact ok_plain rfl) ?_
  rintro r rfl
  simp -implicitDefEqProofs only [evr, id, reduceCtorEq, reduceIte, Nat.reduceMul, Nat.reduceAdd, Nat.reduceLT, Nat.reduceLeDiff, Nat.reduceEqDiff, Int.reduceLT, Int.reduceBEq, Int.reduceBNe, Nat.reduceBEq, ptr, evn]
  refine wcall_plain tB rfl (by rintro _ rfl; exact ok_plain rfl) ?_
  rintro r rfl
  simp -implicitDefEqProofs only [evr, id, reduceCtorEq, reduceIte, Nat.reduceMul, Nat.reduceAdd, Nat.reduceLT, Nat.reduceLeDiff, Nat.reduceEqDiff, Int.reduceLT, Int.reduceBEq, Int.reduceBNe, Nat.reduceBEq, ptr, evn]
  (refine hk _ ?_; clear hk k; try show Sat _ _ _ _ _)
  (repeat refine Sat.seq ?_)
  (refine Sat.region_k fun k hk => ?_; simp -implicitDefEqProofs only [evr, id, reduceCtorEq, reduceIte, Nat.reduceMul, Nat.reduceAdd, Nat.reduceLT, Nat.reduceLeDiff, Nat.reduceEqDiff, Int.reduceLT, Int.reduceBEq, Int.reduceBNe, Nat.reduceBEq, ptr, evn])
  refine wcall_slice pA rfl rfl ?_
  rintro r ⟨s3, rfl, hs3⟩
  have hx := hs3
  obtain ⟨a3, c3, z3, r3, y3, rfl, _⟩ := hs3
  simp -implicitDefEqProofs only [evr, id, reduceCtorEq, reduceIte, Nat.reduceMul, Nat.reduceAdd, Nat.reduceLT, Nat.reduceLeDiff, Nat.reduceEqDiff, Int.reduceLT, Int.reduceBEq, Int.reduceBNe, Nat.reduceBEq, ptr, evn]
  (refine hk _ ?_; clear hk k; try show Sat _ _ _ _ _)
  (repeat refine Sat.seq ?_)
  refine Sat.region_k fun k hk => ?_
  simp -implicitDefEqProofs only [evr, id, reduceCtorEq, reduceIte, Nat.reduceMul, Nat.reduceAdd, Nat.reduceLT, Nat.reduceLeDiff, Nat.reduceEqDiff, Int.reduceLT, Int.reduceBEq, Int.reduceBNe, Nat.reduceBEq, ptr, bne_self_eq_false, evn]
  have eS : decide (m = m) = true := decide_eq_true rfl
  have ct : (((((⟨#[48]⟩ : ByteArray)).size + (mkB (Lib.decDigits m)).size : Nat) : Int) ≤ IntKind.i64.max) = True := cat_ok (by rw [mkB_size]; show 1 + _ ≤ _; omega)
  have ce : (⟨#[48]⟩ : ByteArray) ++ mkB (Lib.decDigits m) = mkB (48 :: Lib.decDigits m) := mkB_append [48] _
  refine wcall_plain (sameNatC (FrC cb) hx ha) rfl (by rintro _ rfl; exact ok_plain rfl) ?_
  rintro r rfl
  simp -implicitDefEqProofs only [evr, id, reduceCtorEq, reduceIte, Nat.reduceMul, Nat.reduceAdd, Nat.reduceLT, Nat.reduceLeDiff, Nat.reduceEqDiff, Int.reduceLT, Int.reduceBEq, Int.reduceBNe, Nat.reduceBEq, ptr, eS, evn]
  (refine hk _ ?_; clear hk k; try show Sat _ _ _ _ _)
  refine Sat.cond_b rfl (fun h => absurd h (by decide)) (fun _ => ?_)
  refine Sat.skip ?_
  simp only [thenK]
  (repeat refine Sat.seq ?_)
  refine Sat.region_k fun k hk => ?_
  simp -implicitDefEqProofs only [evr, id, reduceCtorEq, reduceIte, Nat.reduceMul, Nat.reduceAdd, Nat.reduceLT, Nat.reduceLeDiff, Nat.reduceEqDiff, Int.reduceLT, Int.reduceBEq, Int.reduceBNe, Nat.reduceBEq, ptr, ct, ce, evn]
  refine wcall_slice pZ rfl rfl ?_
  rintro r ⟨s4, rfl, a4, c4, z4, r4, rfl⟩
  simp -implicitDefEqProofs only [evr, id, reduceCtorEq, reduceIte, Nat.reduceMul, Nat.reduceAdd, Nat.reduceLT, Nat.reduceLeDiff, Nat.reduceEqDiff, Int.reduceLT, Int.reduceBEq, Int.reduceBNe, Nat.reduceBEq, ptr, evn]
  (refine hk _ ?_; clear hk k; try show Sat _ _ _ _ _)
  (repeat refine Sat.seq ?_)
  have cmp := natCmpC (FrC cb) ha hbn
  have sm := sameNatC (FrC cb) ha hbn
  have eq0 : (Lib.decDigits m == Lib.decDigits n) = decide (m = n) := by
    apply Bool.eq_iff_iff.2
    rw [beq_iff_eq, decide_eq_true_eq]
    exact ⟨dec_inj, fun e => by rw [e]⟩
  refine Sat.region_k fun k hk => ?_
  simp -implicitDefEqProofs only [evr, id, reduceCtorEq, reduceIte, Nat.reduceMul, Nat.reduceAdd, Nat.reduceLT, Nat.reduceLeDiff, Nat.reduceEqDiff, Int.reduceLT, Int.reduceBEq, Int.reduceBNe, Nat.reduceBEq, ptr, beq_self_eq_true, mkB_size, mkB_toList, eq0, evn]
  refine ⟨fun h9 => ?_, fun h9 => ?_⟩
  · refine wcall_plain sm rfl (by rintro _ rfl; exact ok_plain rfl) ?_
    rintro r rfl
    simp -implicitDefEqProofs only [evr, id, reduceCtorEq, reduceIte, Nat.reduceMul, Nat.reduceAdd, Nat.reduceLT, Nat.reduceLeDiff, Nat.reduceEqDiff, Int.reduceLT, Int.reduceBEq, Int.reduceBNe, Nat.reduceBEq, ptr, beq_self_eq_true, evn]
    (refine hk _ ?_; clear hk k; try show Sat _ _ _ _ _)
    refine Sat.ret ?_
    simp only [Tryd.results3, evr, id, reduceCtorEq, reduceIte, Nat.reduceMul, Nat.reduceAdd, Nat.reduceLT, Nat.reduceLeDiff, Nat.reduceEqDiff, Int.reduceLT, Int.reduceBEq, Int.reduceBNe, Nat.reduceBEq, ptr, List.append_nil, Int.toNat_zero, Nat.sub_self]
    try rfl
  · have hlt : n < m := by
      rcases Nat.lt_or_ge n m with h | h
      · exact h
      · have := dec_len_mono h
        omega
    have eC : cmpI m n = 1 := cmpI_gt (by omega)
    rw [eC] at cmp
    refine wcall_plain cmp rfl (by rintro _ rfl; exact ok_plain rfl) ?_
    rintro r rfl
    simp -implicitDefEqProofs only [evr, id, reduceCtorEq, reduceIte, Nat.reduceMul, Nat.reduceAdd, Nat.reduceLT, Nat.reduceLeDiff, Nat.reduceEqDiff, Int.reduceLT, Int.reduceBEq, Int.reduceBNe, Nat.reduceBEq, ptr, evn]
    refine wcall_plain sm rfl (by rintro _ rfl; exact ok_plain rfl) ?_
    rintro r rfl
    simp -implicitDefEqProofs only [evr, id, reduceCtorEq, reduceIte, Nat.reduceMul, Nat.reduceAdd, Nat.reduceLT, Nat.reduceLeDiff, Nat.reduceEqDiff, Int.reduceLT, Int.reduceBEq, Int.reduceBNe, Nat.reduceBEq, ptr, mkB_toList, eq0, beq_self_eq_true, evn]
    (refine hk _ ?_; clear hk k; try show Sat _ _ _ _ _)
    refine Sat.ret ?_
    simp only [Tryd.results3, evr, id, reduceCtorEq, reduceIte, Nat.reduceMul, Nat.reduceAdd, Nat.reduceLT, Nat.reduceLeDiff, Nat.reduceEqDiff, Int.reduceLT, Int.reduceBEq, Int.reduceBNe, Nat.reduceBEq, ptr, List.append_nil, Int.toNat_zero, Nat.sub_self]
    try rfl
theorem tx_lt {w : World} (h : TxT w) : 0 + 1 ≤ w.heap.size := by
  unfold TxT Lib.TabIs at h
  unfold World.var? at h
  rw [show Tryd.prog.globalNamed "internal/strconv.uint64pow10" = some 0 by kernel_rfl] at h
  simp only [Option.bind_some] at h
  by_cases h0 : 0 < w.heap.size
  · exact h0
  · rw [Array.getElem?_eq_none (by omega)] at h
    cases h
theorem texts_holds : Rows.NaturalTextsCardSaid := naturalTexts.card_of_walk fun v z w hL ⟨h, hz⟩ => by
  obtain ⟨a, cap, rfl, hok⟩ := slB_of h
  have hT : TxT w := laid_tab hL (by decide +kernel) (by simp [Rows.naturalTextsRow]; rfl) (g := 0) (t := 96) (e := 78) (m := 20) (by kernel_rfl) (by kernel_rfl) (by kernel_rfl) (by kernel_rfl) (by kernel_rfl) (by kernel_rfl)
  exact walk_ofT (textsC a cap z hz) (tx_lt hT) hT (fun s hs => by rw [List.mem_singleton.1 hs]; exact hok)
end Go.Proofs.YtpkmnggfomllhaaDoor
