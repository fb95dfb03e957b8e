/- natural.Text, by the evaluator. -/
import Derived.Test.YtgdbcpljdibliaaGreatDoorStrR
import Derived.Test.YtgdbcpljdibliaaGreatDoorPk4
set_option linter.unusedSimpArgs false
set_option linter.unusedVariables false
namespace Go.Proofs.YtgdbcpljdibliaaGreatDoor
namespace Tq
open Eng Lmb Go.RowKit
theorem itoa_nat (n : Nat) : Lib.itoa (n : Int) = Lib.decDigits n := by unfold Lib.itoa; rw [if_neg (by omega)]; rfl
theorem cat_ok {x y : ByteArray} (h : x.size + y.size ≤ 1000000) : (((x.size + y.size : Nat) : Int) ≤ IntKind.i64.max) = True := by
  apply eq_true
  have : IntKind.i64.max = 9223372036854775807 := rfl
  omega
theorem str_app (xs : List (List UInt8)) (x : List UInt8) : rdEq (xs.length + 1) 1 (rdCat xs.length (strRd xs) (rdL [sB x] 1)) (strRd (xs ++ [x])) := by
  intro i j hi hj
  obtain rfl : j = 0 := by omega
  unfold rdCat strRd
  split
  · rename_i h
    simp [List.getD, List.getElem?_append_left h]
  · rename_i h
    have e : i = xs.length := by omega
    subst e
    simp [List.getD, rdL]
set_option maxHeartbeats 1000000 in
set_option maxRecDepth 100000 in
theorem textC {s : SV} {n : Nat} (hs : Nats s n) (hn : n < 2 ^ 7680) (h256 : (n : Int) < pw 256) : Contract FrA Tryz.prog 45 [s] (fun r => r = sB (Lib.decDigits n)) := by
  have hs1 := hs
  obtain ⟨a1, c1, z1, r1, x1, rfl, _⟩ := hs
  have hl := hs1.len
  have hl0 := hs1.len0
  refine contract_of Tryz.func45 rfl (by kernel_rfl) ?_
  simp only [Tryz.ntmps45, argEnv]
  (repeat refine Sat.seq ?_)
  (refine Sat.region_k fun k hk => ?_; simp -implicitDefEqProofs only [evr, id, reduceCtorEq, reduceIte, Nat.reduceMul, Nat.reduceAdd, Nat.reduceLT, Nat.reduceLeDiff, Nat.reduceEqDiff, Int.reduceLT, Int.reduceBEq, Int.reduceBNe, Nat.reduceBEq, str_0, evn]; refine hk _ ?_; clear hk k; try show Sat _ _ _ _ _)
  (repeat refine Sat.seq ?_)
  (refine Sat.region_k fun k hk => ?_; simp -implicitDefEqProofs only [evr, id, reduceCtorEq, reduceIte, Nat.reduceMul, Nat.reduceAdd, Nat.reduceLT, Nat.reduceLeDiff, Nat.reduceEqDiff, Int.reduceLT, Int.reduceBEq, Int.reduceBNe, Nat.reduceBEq, str_0, evn]; refine hk _ ?_; clear hk k; try show Sat _ _ _ _ _)
  refine Sat.cond_b rfl (fun h => ?_) (fun h => ?_)
  · rw [hl0] at h
    have h0 : n = 0 := of_decide_eq_true h
    (repeat refine Sat.seq ?_)
    (refine Sat.region_k fun k hk => ?_; simp -implicitDefEqProofs only [evr, id, reduceCtorEq, reduceIte, Nat.reduceMul, Nat.reduceAdd, Nat.reduceLT, Nat.reduceLeDiff, Nat.reduceEqDiff, Int.reduceLT, Int.reduceBEq, Int.reduceBNe, Nat.reduceBEq, str_0, evn]; refine hk _ ?_; clear hk k; try show Sat _ _ _ _ _)
    refine Sat.ret ?_
    simp only [Tryz.results45, evr, id, reduceCtorEq, reduceIte, Nat.reduceMul, Nat.reduceAdd, Nat.reduceLT, Nat.reduceLeDiff, Nat.reduceEqDiff, Int.reduceLT, Int.reduceBEq, Int.reduceBNe, Nat.reduceBEq, List.append_nil, Int.toNat_zero, Nat.sub_self, str_0]
    rw [h0, dec_small (by decide)]
    rfl
  have hn0 : 0 < n := by
    rw [hl0] at h
    have := of_decide_eq_false h
    omega
  clear h
  refine Sat.skip ?_
  simp only [thenK]
  (repeat refine Sat.seq ?_)
  (refine Sat.region_k fun k hk => ?_; simp -implicitDefEqProofs only [evr, id, reduceCtorEq, reduceIte, Nat.reduceMul, Nat.reduceAdd, Nat.reduceLT, Nat.reduceLeDiff, Nat.reduceEqDiff, Int.reduceLT, Int.reduceBEq, Int.reduceBNe, Nat.reduceBEq, str_0, evn]; refine hk _ ?_; clear hk k; try show Sat _ _ _ _ _)
  (repeat refine Sat.seq ?_)
  (refine Sat.region_k fun k hk => ?_; simp -implicitDefEqProofs only [evr, id, reduceCtorEq, reduceIte, Nat.reduceMul, Nat.reduceAdd, Nat.reduceLT, Nat.reduceLeDiff, Nat.reduceEqDiff, Int.reduceLT, Int.reduceBEq, Int.reduceBNe, Nat.reduceBEq, str_0, evn]; refine hk _ ?_; clear hk k; try show Sat _ _ _ _ _)
  (repeat refine Sat.seq ?_)
  refine Sat.block ?_
  refine Sat.adopt 3 9 1 (strRd []) rfl ?_
  refine Sat.loop (ι := Nat × SV × Option Addr × Nat × List (List UInt8)) (fun x => ⟨38, [(4, x.2.1), (3, .os 0 x.2.2.1 x.2.2.2.2.length x.2.2.2.1)], [.row x.2.2.1 9 x.2.2.2.2.length x.2.2.2.1 1 (strRd x.2.2.2.2)]⟩)
    (fun x => Nats x.2.1 x.1 ∧ (x.1 : Int) < pw 256 ∧ TextInv n x.1 x.2.2.2.2 ∧ x.2.2.2.2.length ≤ 7680) (fun x => x.1) (n, .sl a1 x1.length c1 z1 r1, none, 0, []) ⟨hs1, h256, TextInv.start hn0, Nat.zero_le _⟩ (by simp -implicitDefEqProofs only [evr, id, reduceCtorEq, reduceIte, Nat.reduceMul, Nat.reduceAdd, Nat.reduceLT, Nat.reduceLeDiff, Nat.reduceEqDiff, Int.reduceLT, Int.reduceBEq, Int.reduceBNe, Nat.reduceBEq, str_0, evl, evn]) ?_
  rintro ⟨r, sr, a, cap, parts⟩ ⟨hr, hr256, hinv, hpl⟩
  simp only at hr hr256 hinv hpl ⊢
  have hr1 := hr
  obtain ⟨a2, c2, z2, r2, x2, rfl, _⟩ := hr
  have hl2 := hr1.len
  (repeat refine Sat.seq ?_)
  (refine Sat.region_k fun k hk => ?_; simp -implicitDefEqProofs only [evr, id, reduceCtorEq, reduceIte, Nat.reduceMul, Nat.reduceAdd, Nat.reduceLT, Nat.reduceLeDiff, Nat.reduceEqDiff, Int.reduceLT, Int.reduceBEq, Int.reduceBNe, Nat.reduceBEq, str_0, evn]; refine hk _ ?_; clear hk k; try show Sat _ _ _ _ _)
  (repeat refine Sat.seq ?_)
  refine Sat.cond_b rfl (fun h => ?_) (fun h => ?_)
  · have hr0 : 0 < r := by
      have h9 := of_decide_eq_true h
      rw [hl2] at h9
      exact h9
    clear h
    have hstep := hinv.step hr0
    have hplt := hinv.len hr0 hn
    have hmod : r % 1000000000 < 10 ^ (8 + 1) := Nat.mod_lt _ (by decide)
    obtain ⟨hd9, _⟩ := pad_dec 8 _ hmod
    have e9 : IntKind.i64.wrap (9 - ((Lib.decDigits (r % 1000000000)).length : Int)) = ((9 - (Lib.decDigits (r % 1000000000)).length : Nat) : Int) := by rw [w64 (by omega)]; omega
    have itC := itoaC ((r % 1000000000 : Nat) : Int) (by omega) (by omega)
    rw [itoa_nat] at itC
    have rpC := repeatC FrA [48] (9 - (Lib.decDigits (r % 1000000000)).length) (by omega) (by decide)
    have rlen := Lib.repeatL_length [48] (9 - (Lib.decDigits (r % 1000000000)).length)
    have ct : ((((mkB (Lib.repeatL [48] (9 - (Lib.decDigits (r % 1000000000)).length))).size + (mkB (Lib.decDigits (r % 1000000000))).size : Nat) : Int) ≤ IntKind.i64.max) = True := cat_ok (by rw [mkB_size, mkB_size, rlen]; simp; omega)
    refine Sat.skip ?_
    simp only [thenK]
    (repeat refine Sat.seq ?_)
    refine Sat.block ?_
    (repeat refine Sat.seq ?_)
    (refine Sat.region_k fun k hk => ?_; simp -implicitDefEqProofs only [evr, id, reduceCtorEq, reduceIte, Nat.reduceMul, Nat.reduceAdd, Nat.reduceLT, Nat.reduceLeDiff, Nat.reduceEqDiff, Int.reduceLT, Int.reduceBEq, Int.reduceBNe, Nat.reduceBEq, str_0, evn]; refine hk _ ?_; clear hk k; try show Sat _ _ _ _ _)
    (repeat refine Sat.seq ?_)
    (refine Sat.region_k fun k hk => ?_; simp -implicitDefEqProofs only [evr, id, reduceCtorEq, reduceIte, Nat.reduceMul, Nat.reduceAdd, Nat.reduceLT, Nat.reduceLeDiff, Nat.reduceEqDiff, Int.reduceLT, Int.reduceBEq, Int.reduceBNe, Nat.reduceBEq, str_0, evn])
    refine wcall_slice (smallC FrA 1000000000 hr1 hr256 (by decide) (by decide)) rfl (by simp -implicitDefEqProofs only [evr, id, reduceCtorEq, reduceIte, Nat.reduceMul, Nat.reduceAdd, Nat.reduceLT, Nat.reduceLeDiff, Nat.reduceEqDiff, Int.reduceLT, Int.reduceBEq, Int.reduceBNe, Nat.reduceBEq, str_0, evn]; rfl) ?_
    rintro rr ⟨s3, rfl, hs3⟩
    have hs2 := hs3
    obtain ⟨a3, c3, z3, r3, x3, rfl, _⟩ := hs3
    have hl3 := hs2.len
    simp -implicitDefEqProofs only [evr, id, reduceCtorEq, reduceIte, Nat.reduceMul, Nat.reduceAdd, Nat.reduceLT, Nat.reduceLeDiff, Nat.reduceEqDiff, Int.reduceLT, Int.reduceBEq, Int.reduceBNe, Nat.reduceBEq, str_0, evn]
    (refine hk _ ?_; clear hk k; try show Sat _ _ _ _ _)
    (repeat refine Sat.seq ?_)
    (refine Sat.region_k fun k hk => ?_; simp -implicitDefEqProofs only [evr, id, reduceCtorEq, reduceIte, Nat.reduceMul, Nat.reduceAdd, Nat.reduceLT, Nat.reduceLeDiff, Nat.reduceEqDiff, Int.reduceLT, Int.reduceBEq, Int.reduceBNe, Nat.reduceBEq, str_0, evn])
    refine wcall_plain itC rfl (by rintro _ rfl; exact ok_plain rfl) ?_
    rintro rr rfl
    simp -implicitDefEqProofs only [evr, id, reduceCtorEq, reduceIte, Nat.reduceMul, Nat.reduceAdd, Nat.reduceLT, Nat.reduceLeDiff, Nat.reduceEqDiff, Int.reduceLT, Int.reduceBEq, Int.reduceBNe, Nat.reduceBEq, str_0, evn]
    (refine hk _ ?_; clear hk k; try show Sat _ _ _ _ _)
    (repeat refine Sat.seq ?_)
    (refine Sat.region_k fun k hk => ?_; simp -implicitDefEqProofs only [evr, id, reduceCtorEq, reduceIte, Nat.reduceMul, Nat.reduceAdd, Nat.reduceLT, Nat.reduceLeDiff, Nat.reduceEqDiff, Int.reduceLT, Int.reduceBEq, Int.reduceBNe, Nat.reduceBEq, str_0, evn]; refine hk _ ?_; clear hk k; try show Sat _ _ _ _ _)
    refine Sat.join (fun _ : Unit => ⟨38, [(6, sB (chunk r)), (4, .sl a3 x3.length c3 z3 r3), (3, .os 0 a parts.length cap)], [.row a 9 parts.length cap 1 (strRd parts)]⟩) (fun _ => True) ?_ (fun _ _ => ?_)
    · refine Sat.cond_b rfl (fun h => ?_) (fun h => ?_)
      · have h9 := of_decide_eq_true h
        rw [hl3] at h9
        have ec : chunk r = Lib.repeatL [48] (9 - (Lib.decDigits (r % 1000000000)).length) ++ Lib.decDigits (r % 1000000000) := by unfold chunk; rw [if_pos h9]
        refine Sat.region_k fun k hk => ?_
        simp -implicitDefEqProofs only [evr, id, reduceCtorEq, reduceIte, Nat.reduceMul, Nat.reduceAdd, Nat.reduceLT, Nat.reduceLeDiff, Nat.reduceEqDiff, Int.reduceLT, Int.reduceBEq, Int.reduceBNe, Nat.reduceBEq, str_0, mkB_size, e9, evn]
        refine wcall_plain rpC rfl (by rintro _ rfl; exact ok_plain rfl) ?_
        rintro rr rfl
        simp -implicitDefEqProofs only [evr, id, reduceCtorEq, reduceIte, Nat.reduceMul, Nat.reduceAdd, Nat.reduceLT, Nat.reduceLeDiff, Nat.reduceEqDiff, Int.reduceLT, Int.reduceBEq, Int.reduceBNe, Nat.reduceBEq, str_0, ct, evn]
        simp only [mkB_append]
        refine hk _ ?_
        simp only [thenK]
        refine ⟨(), trivial, ?_⟩
        rw [ec]
        simp -implicitDefEqProofs only [evr, id, reduceCtorEq, reduceIte, Nat.reduceMul, Nat.reduceAdd, Nat.reduceLT, Nat.reduceLeDiff, Nat.reduceEqDiff, Int.reduceLT, Int.reduceBEq, Int.reduceBNe, Nat.reduceBEq, str_0, evl, evn]
        repeat' (first | rfl | (refine And.intro ?_ ?_))
      · have h9 := of_decide_eq_false h
        rw [hl3] at h9
        have ec : chunk r = Lib.decDigits (r % 1000000000) := by unfold chunk; rw [if_neg h9]
        refine Sat.skip ?_
        simp only [thenK]
        refine ⟨(), trivial, ?_⟩
        rw [ec]
        simp -implicitDefEqProofs only [evr, id, reduceCtorEq, reduceIte, Nat.reduceMul, Nat.reduceAdd, Nat.reduceLT, Nat.reduceLeDiff, Nat.reduceEqDiff, Int.reduceLT, Int.reduceBEq, Int.reduceBNe, Nat.reduceBEq, str_0, evl, evn]
        repeat' (first | rfl | (refine And.intro ?_ ?_))
    · refine Sat.region_k fun k hk => ?_
      simp -implicitDefEqProofs only [evr, id, reduceCtorEq, reduceIte, Nat.reduceMul, Nat.reduceAdd, Nat.reduceLT, Nat.reduceLeDiff, Nat.reduceEqDiff, Int.reduceLT, Int.reduceBEq, Int.reduceBNe, Nat.reduceBEq, str_0, evn]
      intro blk
      refine ⟨⟨by unfold maxLen; omega, by omega⟩, fun a4 cap4 => ?_⟩
      refine hk _ ?_
      simp only [thenK, blockK]
      refine ⟨(r / 1000000000, _, a4, cap4, parts ++ [chunk r]), ⟨hs2, by omega, hstep, by simp; omega⟩, by show r / 1000000000 < r; omega, ?_⟩
      have ea := str_app parts (chunk r)
      simp only [List.length_append, List.length_cons, List.length_nil]
      simp -implicitDefEqProofs only [evr, id, reduceCtorEq, reduceIte, Nat.reduceMul, Nat.reduceAdd, Nat.reduceLT, Nat.reduceLeDiff, Nat.reduceEqDiff, Int.reduceLT, Int.reduceBEq, Int.reduceBNe, Nat.reduceBEq, str_0, evl, evn]
      repeat' (first | exact ea | rfl | (refine And.intro ?_ ?_))
  · have hr0 : r = 0 := by
      have h9 := of_decide_eq_false h
      rw [hl2] at h9
      omega
    obtain ⟨hfl, hp0⟩ := hinv.done hr0
    have hjn : Lib.join ((parts.reverse.map mkB).map (·.data.toList)) (⟨#[]⟩ : ByteArray).data.toList = Lib.decDigits n := by
      rw [List.map_map]
      have e : (parts.reverse.map ((fun x : ByteArray => x.data.toList) ∘ mkB)) = parts.reverse := by
        apply List.map_id''
        intro x
        rfl
      rw [e]
      exact (join_none _).trans hfl
    have hdl := dec_two 7680 n hn
    have jnC := joinC FrA (a := a) (len := parts.length) (cap := cap) (rd := strRd parts.reverse) (parts.reverse.map mkB) ⟨#[]⟩ (by simp) (fun j x hx => by
      rw [List.getElem?_map] at hx
      cases hj : parts.reverse[j]? with
      | none => rw [hj] at hx; cases hx
      | some y =>
        rw [hj] at hx
        cases hx
        unfold strRd
        simp [List.getD, hj]) hp0 (by omega) (by rw [hjn]; omega)
    rw [hjn] at jnC
    refine Sat.exit ?_
    simp only [thenK, blockK, reduceIte]
    (repeat refine Sat.seq ?_)
    (refine Sat.region_k fun k hk => ?_; simp -implicitDefEqProofs only [evr, id, reduceCtorEq, reduceIte, Nat.reduceMul, Nat.reduceAdd, Nat.reduceLT, Nat.reduceLeDiff, Nat.reduceEqDiff, Int.reduceLT, Int.reduceBEq, Int.reduceBNe, Nat.reduceBEq, str_0, evn])
    refine wcall_mut 0 (reverseC FrA a cap parts (by omega)) rfl rfl ?_
    rintro rr o1 ⟨rfl, rfl⟩
    simp -implicitDefEqProofs only [evr, id, reduceCtorEq, reduceIte, Nat.reduceMul, Nat.reduceAdd, Nat.reduceLT, Nat.reduceLeDiff, Nat.reduceEqDiff, Int.reduceLT, Int.reduceBEq, Int.reduceBNe, Nat.reduceBEq, str_0, evn]
    (refine hk _ ?_; clear hk k; try show Sat _ _ _ _ _)
    (repeat refine Sat.seq ?_)
    (refine Sat.region_k fun k hk => ?_; simp -implicitDefEqProofs only [evr, id, reduceCtorEq, reduceIte, Nat.reduceMul, Nat.reduceAdd, Nat.reduceLT, Nat.reduceLeDiff, Nat.reduceEqDiff, Int.reduceLT, Int.reduceBEq, Int.reduceBNe, Nat.reduceBEq, str_0, evn])
    refine wcall_plain jnC (by simp -implicitDefEqProofs only [evr, id, reduceCtorEq, reduceIte, Nat.reduceMul, Nat.reduceAdd, Nat.reduceLT, Nat.reduceLeDiff, Nat.reduceEqDiff, Int.reduceLT, Int.reduceBEq, Int.reduceBNe, Nat.reduceBEq, str_0, evn]; try rfl) (by rintro _ rfl; exact ok_plain rfl) ?_
    rintro rr rfl
    simp -implicitDefEqProofs only [evr, id, reduceCtorEq, reduceIte, Nat.reduceMul, Nat.reduceAdd, Nat.reduceLT, Nat.reduceLeDiff, Nat.reduceEqDiff, Int.reduceLT, Int.reduceBEq, Int.reduceBNe, Nat.reduceBEq, str_0, evn]
    (refine hk _ ?_; clear hk k; try show Sat _ _ _ _ _)
    refine Sat.ret ?_
    simp only [Tryz.results45, evr, id, reduceCtorEq, reduceIte, Nat.reduceMul, Nat.reduceAdd, Nat.reduceLT, Nat.reduceLeDiff, Nat.reduceEqDiff, Int.reduceLT, Int.reduceBEq, Int.reduceBNe, Nat.reduceBEq, List.append_nil, Int.toNat_zero, Nat.sub_self, str_0]
    try rfl
end Tq
end Go.Proofs.YtgdbcpljdibliaaGreatDoor
