/- It is proved that the statement FractionTexts holds for every input: fractions come back from their texts, which are equal exactly for equal values. No conditions. -/
import Derived.Test.YtgdbcpljdibliaaGreatDoorPk5
import Derived.Test.YtgdbcpljdibliaaGreatDoorWalkE
import Derived.Test.YtgdbcpljdibliaaGreatDoorPk4
import Derived.Test.YtgdbcpljdibliaaGreatDoorShFractionTexts
set_option linter.unusedSimpArgs false
set_option linter.unusedVariables false
namespace Go.Proofs.YtgdbcpljdibliaaGreatDoor
namespace Tq
open Eng Lmb Go.RowKit
theorem frv_bnd {a : SV} {n : Int} {d k : Nat} (ha : FrV a n d k) : rP n d ≤ 2 ^ k ∧ rQ n d ≤ 2 ^ k ∧ 0 < d := by
  obtain ⟨na, p, q, _, h1, hq0, hd0, hpk, hqk⟩ := ha
  obtain ⟨pN, pP, pQ⟩ := red_parts (na := na) (p := p) hq0
  obtain ⟨eN, eP, eQ⟩ := r_eq hq0 hd0 h1
  have bP : p / Nat.gcd p q ≤ 2 ^ k := Nat.le_trans (Nat.div_le_self _ _) hpk
  have bQ : q / Nat.gcd p q ≤ 2 ^ k := Nat.le_trans (Nat.div_le_self _ _) hqk
  rw [pP, eP] at bP
  rw [pQ, eQ] at bQ
  exact ⟨bP, bQ, hd0⟩
theorem frv_mono {a : SV} {n : Int} {d k k' : Nat} (ha : FrV a n d k) (h : k ≤ k') : FrV a n d k' := by
  obtain ⟨na, p, q, hs, h1, hq0, hd0, hpk, hqk⟩ := ha
  exact ⟨na, p, q, hs, h1, hq0, hd0, Nat.le_trans hpk (two_le h), Nat.le_trans hqk (two_le h)⟩
theorem r_gcd (n : Int) {d : Nat} (hd : 0 < d) : Nat.gcd (rP n d) (rQ n d) = 1 := Nat.gcd_div_gcd_div_gcd_of_pos_right hd
theorem r_back {n m : Int} {d e : Nat} (hd : 0 < d) (he : 0 < e) (h1 : rN n = rN m) (h2 : rP n d = rP m e) (h3 : rQ n d = rQ m e) : n * e = m * d := by
  have v1 := r_val n hd
  have v2 := r_val m he
  have hq := rQ_pos (n := m) he
  rw [h1, h2, h3] at v1
  generalize sg (rN m) (rP m e) = s at v1 v2
  have hq' : ((rQ m e : Nat) : Int) ≠ 0 := by omega
  apply Int.eq_of_mul_eq_mul_right hq'
  rw [Int.mul_right_comm, ← v1, Int.mul_right_comm m, ← v2, Int.mul_right_comm]
theorem frac_same {n m : Int} {d e : Nat} (hd : 0 < d) (he : 0 < e) : (frText (rN n) (rP n d) (rQ n d) == frText (rN m) (rP m e) (rQ m e)) = decide (n * e = m * d) := by
  apply Bool.eq_iff_iff.2
  rw [beq_iff_eq, decide_eq_true_eq]
  constructor
  · intro h
    obtain ⟨h1, h2, h3⟩ := text_inj h
    exact r_back hd he h1 h2 h3
  · intro h
    obtain ⟨h1, h2, h3⟩ := r_eq hd he h
    rw [h1, h2, h3]
theorem sgI_zero (x : Int) : (sgI x == 0) = decide (x = 0) := by
  apply Bool.eq_iff_iff.2
  rw [beq_iff_eq, decide_eq_true_eq]
  unfold sgI
  split
  · omega
  · split <;> omega
theorem lt_of_le (y : Nat) (h : (y : Int) < 50) : ((y + 1 : Nat) : Int) < pw 512 := by
  have := pw_mono (a := 1) (b := 512) (by decide)
  rw [pw_succ, pw_zero] at this
  omega
theorem frv_times {nb : Bool} {p q d k : Nat} {n : Int} {s1 s2 : SV} (hv : sg nb p * d = n * q) (hq0 : 0 < q) (hd0 : 0 < d) (hp : p ≤ 2 ^ k) (hq : q ≤ 2 ^ k) (y : Nat) (hy : y < 50) (h1 : Nats s1 (p * (y + 1))) (h2 : Nats s2 (q * (y + 1))) : FrV (frS nb s1 s2) n d (k + 6) := by
  have h6 : y + 1 ≤ 2 ^ 6 := by omega
  refine ⟨nb, p * (y + 1), q * (y + 1), ⟨s1, s2, rfl, h1, h2⟩, ?_, Nat.mul_pos hq0 (by omega), hd0, ?_, ?_⟩
  · rw [sg_mul, Int.natCast_mul, Int.mul_right_comm, hv, Int.mul_assoc]
  · rw [Nat.pow_add]; exact Nat.mul_le_mul hp h6
  · rw [Nat.pow_add]; exact Nat.mul_le_mul hq h6
theorem frS_inj {a b : Bool} {s1 s2 t1 t2 : SV} (h : frS a s1 s2 = frS b t1 t2) : a = b ∧ s1 = t1 ∧ s2 = t2 := by
  unfold frS at h
  simp only [SV.agg.injEq, true_and] at h
  have h0 := congrFun h 0
  have h1 := congrFun h 1
  have h2 := congrFun h 2
  simp at h0 h1 h2
  exact ⟨h0, h1, h2⟩
theorem frac_sgI {n m : Int} {d e : Nat} (hd : 0 < d) (he : 0 < e) : (frText (rN n) (rP n d) (rQ n d) == frText (rN m) (rP m e) (rQ m e)) = (sgI (n * e + -m * d) == 0) := by
  rw [frac_same hd he, sgI_zero]
  apply Bool.eq_iff_iff.2
  rw [decide_eq_true_eq, decide_eq_true_eq, Int.neg_mul]
  omega
abbrev FrC (cb : Nat) : Frm := Frm.codesT cb (3 + 1) TxT tx_low
set_option maxHeartbeats 1000000 in
set_option maxRecDepth 100000 in
theorem textsC (a : Option Addr) (cap : Nat) (z : List Int) (hz : ∀ n ∈ z, (Lit.int .u8 n).wf = true) : Contract FrA Tryz.prog 3 [slB a cap z] (fun r => r = .b true) := by
  have hb := slB_bytes3 a cap z hz
  refine contract_of Tryz.func3 rfl (by kernel_rfl) ?_
  simp only [Tryz.ntmps3, argEnv]
  (repeat refine Sat.seq ?_)
  (refine Sat.region_k fun k hk => ?_; simp -implicitDefEqProofs only [evr, id, reduceCtorEq, reduceIte, Nat.reduceMul, Nat.reduceAdd, Nat.reduceLT, Nat.reduceLeDiff, Nat.reduceEqDiff, Int.reduceLT, Int.reduceBEq, Int.reduceBNe, Nat.reduceBEq, ptr, frS, evn]; refine hk _ ?_; clear hk k; try show Sat _ _ _ _ _)
  (repeat refine Sat.seq ?_)
  (refine Sat.region_k fun k hk => ?_; simp -implicitDefEqProofs only [evr, id, reduceCtorEq, reduceIte, Nat.reduceMul, Nat.reduceAdd, Nat.reduceLT, Nat.reduceLeDiff, Nat.reduceEqDiff, Int.reduceLT, Int.reduceBEq, Int.reduceBNe, Nat.reduceBEq, ptr, frS, evn])
  refine wcall_plain (awakeC FrA) rfl (by rintro _ rfl; exact ok_plain rfl) ?_
  rintro r rfl
  simp -implicitDefEqProofs only [evr, id, reduceCtorEq, reduceIte, Nat.reduceMul, Nat.reduceAdd, Nat.reduceLT, Nat.reduceLeDiff, Nat.reduceEqDiff, Int.reduceLT, Int.reduceBEq, Int.reduceBNe, Nat.reduceBEq, ptr, frS, evn]
  (refine hk _ ?_; clear hk k; try show Sat _ _ _ _ _)
  refine Sat.cond_b rfl (fun h => absurd h (by decide)) (fun _ => ?_)
  refine Sat.skip ?_
  simp only [thenK]
  (repeat refine Sat.seq ?_)
  (refine Sat.region_k fun k hk => ?_; simp -implicitDefEqProofs only [evr, id, reduceCtorEq, reduceIte, Nat.reduceMul, Nat.reduceAdd, Nat.reduceLT, Nat.reduceLeDiff, Nat.reduceEqDiff, Int.reduceLT, Int.reduceBEq, Int.reduceBNe, Nat.reduceBEq, ptr, frS, evn])
  refine wcall_make (newRC (slB a cap z) hb 200 (by decide)) ?_
  intro cb
  simp -implicitDefEqProofs only [evr, id, reduceCtorEq, reduceIte, Nat.reduceMul, Nat.reduceAdd, Nat.reduceLT, Nat.reduceLeDiff, Nat.reduceEqDiff, Int.reduceLT, Int.reduceBEq, Int.reduceBNe, Nat.reduceBEq, ptr, frS, evn]
  (refine hk _ ?_; clear hk k; try show Sat _ _ _ _ _)
  refine Sat.switchT (cb := cb) (id := 0) rfl ?_
  (repeat refine Sat.seq ?_)
  (refine Sat.region_k fun k hk => ?_; simp -implicitDefEqProofs only [evr, id, reduceCtorEq, reduceIte, Nat.reduceMul, Nat.reduceAdd, Nat.reduceLT, Nat.reduceLeDiff, Nat.reduceEqDiff, Int.reduceLT, Int.reduceBEq, Int.reduceBNe, Nat.reduceBEq, ptr, frS, evn])
  refine wcall_slice ((fractionCdC cb 6 (by decide) (by decide)).codesT) rfl rfl ?_
  rintro sx hx0
  obtain ⟨nx, dx, hx⟩ := hx0.v
  have hx1 := hx
  obtain ⟨nb1, p, q, ⟨sp, sq, rfl, hp, hq⟩, hv, hq0, hd0, hpk, hqk⟩ := hx1
  have hp1 := hp
  have hq1 := hq
  obtain ⟨a1, c1, z1, r1, x1, rfl, _⟩ := hp1
  obtain ⟨a2, c2, z2, r2, x2, rfl, _⟩ := hq1
  simp -implicitDefEqProofs only [evr, id, reduceCtorEq, reduceIte, Nat.reduceMul, Nat.reduceAdd, Nat.reduceLT, Nat.reduceLeDiff, Nat.reduceEqDiff, Int.reduceLT, Int.reduceBEq, Int.reduceBNe, Nat.reduceBEq, ptr, frS, evn]
  refine wcall_slice ((fractionCdC cb 6 (by decide) (by decide)).codesT) rfl rfl ?_
  rintro sy hy0
  obtain ⟨ny, dy, hy⟩ := hy0.v
  obtain ⟨nb2, a3, l3, c3, z3, r3, a4, l4, c4, z4, r4, rfl⟩ := hy.open
  simp -implicitDefEqProofs only [evr, id, reduceCtorEq, reduceIte, Nat.reduceMul, Nat.reduceAdd, Nat.reduceLT, Nat.reduceLeDiff, Nat.reduceEqDiff, Int.reduceLT, Int.reduceBEq, Int.reduceBNe, Nat.reduceBEq, ptr, frS, evn]
  intro b4 b5
  (refine hk _ ?_; clear hk k; try show Sat _ _ _ _ _)
  (repeat refine Sat.seq ?_)
  (refine Sat.region_k fun k hk => ?_; simp -implicitDefEqProofs only [evr, id, reduceCtorEq, reduceIte, Nat.reduceMul, Nat.reduceAdd, Nat.reduceLT, Nat.reduceLeDiff, Nat.reduceEqDiff, Int.reduceLT, Int.reduceBEq, Int.reduceBNe, Nat.reduceBEq, ptr, frS, evn])
  refine wcall_plain ((nextC cb 3 (by decide) (by decide)).codesT) rfl (by rintro _ ⟨x, rfl, _⟩; exact ok_plain rfl) ?_
  rintro r ⟨y3, rfl, _⟩
  simp -implicitDefEqProofs only [evr, id, reduceCtorEq, reduceIte, Nat.reduceMul, Nat.reduceAdd, Nat.reduceLT, Nat.reduceLeDiff, Nat.reduceEqDiff, Int.reduceLT, Int.reduceBEq, Int.reduceBNe, Nat.reduceBEq, ptr, frS, evn]
  (refine hk _ ?_; clear hk k; try show Sat _ _ _ _ _)
  (repeat refine Sat.seq ?_)
  refine Sat.join2 (ι := Bool × SV × SV) (fun z => ⟨68, [(5, .op 1 b5 0), (4, .op 0 b4 0), (3, ptr cb)], [.box b4 29 [.b nb1, .sl a1 x1.length c1 z1 r1, .sl a2 x2.length c2 z2 r2], .box b5 29 [.b z.1, z.2.1, z.2.2]]⟩)
    (fun z => ∃ m e, FrV (frS z.1 z.2.1 z.2.2) m e 186) (fun hrest => ?_) ?_
  · refine Sat.cond_b rfl (fun h => ?_) (fun h => ?_)
    · (repeat refine Sat.seq ?_)
      (refine Sat.region_k fun k hk => ?_; simp -implicitDefEqProofs only [evr, id, reduceCtorEq, reduceIte, Nat.reduceMul, Nat.reduceAdd, Nat.reduceLT, Nat.reduceLeDiff, Nat.reduceEqDiff, Int.reduceLT, Int.reduceBEq, Int.reduceBNe, Nat.reduceBEq, ptr, frS, evn])
      refine wcall_plain ((nextC cb 50 (by decide) (by decide)).codesT) rfl (by rintro _ ⟨x, rfl, _⟩; exact ok_plain rfl) ?_
      rintro r ⟨y, rfl, hy0, hy1⟩
      obtain ⟨y, rfl⟩ := Int.eq_ofNat_of_zero_le hy0
      have e1 : IntKind.i64.wrap (1 + (y : Int)) = ((y + 1 : Nat) : Int) := by rw [w64 (by omega)]; omega
      have e2 : IntKind.u64.wrap ((y + 1 : Nat) : Int) = ((y + 1 : Nat) : Int) := by rw [IntKind.wrap_u64]; omega
      simp -implicitDefEqProofs only [evr, id, reduceCtorEq, reduceIte, Nat.reduceMul, Nat.reduceAdd, Nat.reduceLT, Nat.reduceLeDiff, Nat.reduceEqDiff, Int.reduceLT, Int.reduceBEq, Int.reduceBNe, Nat.reduceBEq, ptr, frS, e1, e2, evn]
      refine wcall_slice (refWordC (FrC cb) (y + 1) (by omega)) rfl rfl ?_
      rintro sk hk0
      have hk1 := hk0
      obtain ⟨ak, ck, zk, rk, xk, rfl, _⟩ := hk1
      simp -implicitDefEqProofs only [evr, id, reduceCtorEq, reduceIte, Nat.reduceMul, Nat.reduceAdd, Nat.reduceLT, Nat.reduceLeDiff, Nat.reduceEqDiff, Int.reduceLT, Int.reduceBEq, Int.reduceBNe, Nat.reduceBEq, ptr, frS, evn]
      (refine hk _ ?_; clear hk k; try show Sat _ _ _ _ _)
      (repeat refine Sat.seq ?_)
      have m1 := refTimesC (FrC cb) hp hk0 (lt512 hpk (by decide)) (lt_of_le y (by omega))
      have m2 := refTimesC (FrC cb) hq hk0 (lt512 hqk (by decide)) (lt_of_le y (by omega))
      (refine Sat.region_bt [⟨0, 28, 16, 0⟩, ⟨1, 29, 134217728, 1⟩, ⟨0, 30, 16, 0⟩, ⟨4, 31, 536870912, 1⟩, ⟨0, 32, 64, 0⟩, ⟨24, 33, 3221225472, 2⟩, ⟨0, 34, 16, 0⟩, ⟨64, 35, 8589934592, 1⟩, ⟨0, 36, 64, 0⟩, ⟨416, 37, 51539607552, 2⟩, ⟨546, 38, 73282879488, 0⟩, ⟨2047, 0, 137438953504, 2⟩] [0, 2, 4, 6, 8, 1, 3, 7] (.one 5 (.one 9 (.one 10 (.one 11 .done)))) 4 [5, 9] (by kernel_rfl) (by kernel_rfl) (fun _ _ h => h) fun k hk => ?_; simp only [List.map_cons, List.map_nil, List.getD_cons_zero, List.getD_cons_succ]; simp -implicitDefEqProofs only [evr, id, reduceCtorEq, reduceIte, Nat.reduceMul, Nat.reduceAdd, Nat.reduceLT, Nat.reduceLeDiff, Nat.reduceEqDiff, Int.reduceLT, Int.reduceBEq, Int.reduceBNe, Nat.reduceBEq, ptr, frS, evn])
      repeat' (first
        | (with_reducible refine And.intro ?_ ?_)
        | (refine wcall_slice m1 rfl rfl ?_
           rintro s1 hs1
           have hs1' := hs1
           obtain ⟨aA, cA, zA, rA, xA, rfl, _⟩ := hs1'
           simp -implicitDefEqProofs only [evr, id, reduceCtorEq, reduceIte, Nat.reduceMul, Nat.reduceAdd, Nat.reduceLT, Nat.reduceLeDiff, Nat.reduceEqDiff, Int.reduceLT, Int.reduceBEq, Int.reduceBNe, Nat.reduceBEq, ptr, frS, evn])
        | (refine wcall_slice m2 rfl rfl ?_
           rintro s2 hs2
           have hs2' := hs2
           obtain ⟨aB, cB, zB, rB, xB, rfl, _⟩ := hs2'
           simp -implicitDefEqProofs only [evr, id, reduceCtorEq, reduceIte, Nat.reduceMul, Nat.reduceAdd, Nat.reduceLT, Nat.reduceLeDiff, Nat.reduceEqDiff, Int.reduceLT, Int.reduceBEq, Int.reduceBNe, Nat.reduceBEq, ptr, frS, evn]))
      refine hk _ ?_
      clear hk k
      simp only [thenK]
      refine Sat.le (hrest (nb1, _, _) ⟨nx, dx, frv_times hv hq0 hd0 hpk hqk y (by omega) hs1 hs2⟩) ?_
      simp -implicitDefEqProofs only [evr, id, reduceCtorEq, reduceIte, Nat.reduceMul, Nat.reduceAdd, Nat.reduceLT, Nat.reduceLeDiff, Nat.reduceEqDiff, Int.reduceLT, Int.reduceBEq, Int.reduceBNe, Nat.reduceBEq, ptr, frS, evl, evn]
    · refine Sat.skip ?_
      simp only [thenK]
      refine Sat.le (hrest (nb2, _, _) ⟨ny, dy, frv_mono hy (by decide)⟩) ?_
      simp -implicitDefEqProofs only [evr, id, reduceCtorEq, reduceIte, Nat.reduceMul, Nat.reduceAdd, Nat.reduceLT, Nat.reduceLeDiff, Nat.reduceEqDiff, Int.reduceLT, Int.reduceBEq, Int.reduceBNe, Nat.reduceBEq, ptr, frS, evl, evn]
  rintro ⟨nb, sy1, sy2⟩ ⟨m, e, hy'⟩
  clear hy
  simp only at hy' ⊢
  obtain ⟨nb2', a3', l3', c3', z3', r3', a4', l4', c4', z4', r4', hse⟩ := hy'.open
  obtain ⟨rfl, rfl, rfl⟩ := frS_inj hse
  have hbx := frv_bnd hx
  obtain ⟨hbP, hbQ, hd1⟩ := hbx
  have tx := (fracTextC hx (by decide)).tabT (cb := cb)
  have ty := (fracTextC hy' (by decide)).tabT (cb := cb)
  have pa := (fracParseC hbP hbQ (by decide) (rQ_pos hd1) (rN_pos hd1) (r_gcd nx hd1)).tabT (cb := cb)
  (repeat refine Sat.seq ?_)
  (refine Sat.region_k fun k hk => ?_; simp -implicitDefEqProofs only [evr, id, reduceCtorEq, reduceIte, Nat.reduceMul, Nat.reduceAdd, Nat.reduceLT, Nat.reduceLeDiff, Nat.reduceEqDiff, Int.reduceLT, Int.reduceBEq, Int.reduceBNe, Nat.reduceBEq, ptr, frS, evn])
  refine wcall_plain tx rfl (by rintro _ rfl; exact ok_plain rfl) ?_
  rintro r rfl
  simp -implicitDefEqProofs only [evr, id, reduceCtorEq, reduceIte, Nat.reduceMul, Nat.reduceAdd, Nat.reduceLT, Nat.reduceLeDiff, Nat.reduceEqDiff, Int.reduceLT, Int.reduceBEq, Int.reduceBNe, Nat.reduceBEq, ptr, frS, evn]
  refine wcall_slice pa rfl rfl ?_
  rintro r ⟨f, rfl, hf⟩
  have hf' : FrR f nx dx 180 := ⟨hf, hd1, hbP, hbQ⟩
  obtain ⟨nb3, a5, l5, c5, z5, r5, a6, l6, c6, z6, r6, rfl⟩ := hf'.open
  simp -implicitDefEqProofs only [evr, id, reduceCtorEq, reduceIte, Nat.reduceMul, Nat.reduceAdd, Nat.reduceLT, Nat.reduceLeDiff, Nat.reduceEqDiff, Int.reduceLT, Int.reduceBEq, Int.reduceBNe, Nat.reduceBEq, ptr, frS, evn]
  intro b7
  (refine hk _ ?_; clear hk k; try show Sat _ _ _ _ _)
  (repeat refine Sat.seq ?_)
  have cv := compareV (FrC cb) hx hy' (by decide)
  (refine Sat.region_k fun k hk => ?_; simp -implicitDefEqProofs only [evr, id, reduceCtorEq, reduceIte, Nat.reduceMul, Nat.reduceAdd, Nat.reduceLT, Nat.reduceLeDiff, Nat.reduceEqDiff, Int.reduceLT, Int.reduceBEq, Int.reduceBNe, Nat.reduceBEq, ptr, frS, evn])
  refine wcall_slice cv rfl rfl ?_
  rintro r rfl
  simp -implicitDefEqProofs only [evr, id, reduceCtorEq, reduceIte, Nat.reduceMul, Nat.reduceAdd, Nat.reduceLT, Nat.reduceLeDiff, Nat.reduceEqDiff, Int.reduceLT, Int.reduceBEq, Int.reduceBNe, Nat.reduceBEq, ptr, frS, evn]
  (refine hk _ ?_; clear hk k; try show Sat _ _ _ _ _)
  (repeat refine Sat.seq ?_)
  have hby := frv_bnd hy'
  have es : (frText (rN nx) (rP nx dx) (rQ nx dx) == frText (rN m) (rP m e) (rQ m e)) = (sgI (nx * e + -m * dx) == 0) := frac_sgI hd1 hby.2.2
  clear hby pa cv
  have rd := redV (FrC cb) hx (by decide)
  have sm : ∀ {x : SV}, FrR x nx dx 180 → Contract (FrC cb) Tryz.prog 14 [_, x] (fun r => r = .b true) := fun {x} hr => sameV (FrC cb) hf' hr (by decide) (by decide) rfl
  (refine Sat.region_bt [⟨0, 51, 256, 0⟩, ⟨1, 52, 1125899906842624, 0⟩, ⟨2, 53, 2251799813685248, 0⟩, ⟨4, 54, 4503599627370624, 1⟩, ⟨4, 55, 4503599627370512, 1⟩, ⟨20, 56, 22517998136852480, 2⟩, ⟨44, 57, 49539595901075456, 2⟩, ⟨68, 58, 76561193665298432, 0⟩, ⟨192, 59, 144115188075855872, 0⟩, ⟨256, 60, 288230376151711760, 1⟩, ⟨768, 61, 864691128455135232, 2⟩, ⟨256, 62, 288230376151711776, 1⟩, ⟨3328, 63, 2594073385365405696, 2⟩, ⟨5376, 64, 6052837899185946624, 0⟩, ⟨256, 65, 288230376151712256, 0⟩, ⟨16640, 66, 18734974449861263360, 0⟩, ⟨41216, 67, 46405090560425590784, 0⟩, ⟨65792, 68, 74075206670989918208, 0⟩, ⟨262143, 3, 147573952589676412928, 0⟩] [0, 1, 2, 3, 4] (.one 5 (.one 6 (.one 7 (.one 8 (.free 14 (.free 15 (.alt 9 (.alt 10 (.one 11 (.one 12 (.one 13 (.one 16 (.one 17 (.one 18 .done)))))) (.alt 11 (.one 10 (.one 12 (.one 13 (.one 16 (.one 17 (.one 18 .done)))))) .none)) (.alt 11 (.one 9 (.one 10 (.one 12 (.one 13 (.one 16 (.one 17 (.one 18 .done))))))) .none)))))))) 14 [5] (by kernel_rfl) (by kernel_rfl) (fun _ _ h => h) fun k hk => ?_; simp only [List.map_cons, List.map_nil, List.getD_cons_zero, List.getD_cons_succ]; simp -implicitDefEqProofs only [evr, id, reduceCtorEq, reduceIte, Nat.reduceMul, Nat.reduceAdd, Nat.reduceLT, Nat.reduceLeDiff, Nat.reduceEqDiff, Int.reduceLT, Int.reduceBEq, Int.reduceBNe, Nat.reduceBEq, ptr, frS, evn])
  repeat' (first
    | (with_reducible refine And.intro ?_ ?_)
    | (with_reducible intro hh; exact absurd hh (by decide))
    | (with_reducible intro hh)
    | (refine wcall_slice rd rfl rfl ?_
       rintro x0 hx0
       have hx0' := hx0
       obtain ⟨nb7, a7, l7, c7, z7, r7, a8, l8, c8, z8, r8, rfl⟩ := hx0.open
       simp -implicitDefEqProofs only [evr, id, reduceCtorEq, reduceIte, Nat.reduceMul, Nat.reduceAdd, Nat.reduceLT, Nat.reduceLeDiff, Nat.reduceEqDiff, Int.reduceLT, Int.reduceBEq, Int.reduceBNe, Nat.reduceBEq, ptr, frS, evn])
    | (refine wcall_plain (sm hx0') rfl (by rintro _ rfl; exact ok_plain rfl) ?_
       rintro r rfl
       simp -implicitDefEqProofs only [evr, id, reduceCtorEq, reduceIte, Nat.reduceMul, Nat.reduceAdd, Nat.reduceLT, Nat.reduceLeDiff, Nat.reduceEqDiff, Int.reduceLT, Int.reduceBEq, Int.reduceBNe, Nat.reduceBEq, ptr, frS, evn])
    | (refine wcall_plain tx rfl (by rintro _ rfl; exact ok_plain rfl) ?_
       rintro r rfl
       simp -implicitDefEqProofs only [evr, id, reduceCtorEq, reduceIte, Nat.reduceMul, Nat.reduceAdd, Nat.reduceLT, Nat.reduceLeDiff, Nat.reduceEqDiff, Int.reduceLT, Int.reduceBEq, Int.reduceBNe, Nat.reduceBEq, ptr, frS, evn])
    | (refine wcall_plain ty rfl (by rintro _ rfl; exact ok_plain rfl) ?_
       rintro r rfl
       simp -implicitDefEqProofs only [evr, id, reduceCtorEq, reduceIte, Nat.reduceMul, Nat.reduceAdd, Nat.reduceLT, Nat.reduceLeDiff, Nat.reduceEqDiff, Int.reduceLT, Int.reduceBEq, Int.reduceBNe, Nat.reduceBEq, ptr, frS, evn]))
  all_goals
    simp only [mkB_toList, es, beq_self_eq_true]
    refine hk _ ?_
    clear hk k
    simp only [thenK]
    refine Sat.ret ?_
    simp only [Tryz.results3, evr, id, reduceCtorEq, reduceIte, Nat.reduceMul, Nat.reduceAdd, Nat.reduceLT, Nat.reduceLeDiff, Nat.reduceEqDiff, Int.reduceLT, Int.reduceBEq, Int.reduceBNe, Nat.reduceBEq, ptr, List.append_nil, Int.toNat_zero, Nat.sub_self, frS]
    try rfl
end Tq
theorem tx_lt {w : World} (h : Tq.TxT w) : 3 + 1 ≤ w.heap.size := by
  unfold Tq.TxT Lib.TabIs at h
  unfold World.var? at h
  rw [show Tryz.prog.globalNamed "internal/strconv.uint64pow10" = some 3 by kernel_rfl] at h
  simp only [Option.bind_some] at h
  by_cases h0 : 3 < w.heap.size
  · exact h0
  · rw [Array.getElem?_eq_none (by omega)] at h
    cases h
theorem texts_holds : Rows.FractionTextsCardSaid := fractionTexts.card_of_walk fun v z w hL ⟨h, hz⟩ => by
  obtain ⟨a, cap, rfl, hok⟩ := slB_of h
  have hT : Tq.TxT w := laid_tab hL (by decide +kernel) (by simp [Rows.fractionTextsRow]; rfl) (g := 3) (t := 148) (e := 33) (m := 20) (by kernel_rfl) (by kernel_rfl) (by kernel_rfl) (by kernel_rfl) (by kernel_rfl) (by kernel_rfl)
  exact walk_ofT (Tq.textsC a cap z hz) (tx_lt hT) hT (fun s hs => by rw [List.mem_singleton.1 hs]; exact hok)
end Go.Proofs.YtgdbcpljdibliaaGreatDoor
