/- It is proved that the statement ScheduleParts holds for every input: the probes of two spans that follow each other are those of both together, and the whole span has all. No conditions. -/
import Derived.Test.YtgimngpcfenoaaaPrtM
import Derived.Test.YtgimngpcfenoaaaWalkE
import Derived.Test.YtgimngpcfenoaaaShScheduleParts
set_option linter.unusedSimpArgs false
set_option linter.unusedVariables false
namespace Go.Proofs.Ytgimngpcfenoaaa
open Go.Sort Eng
namespace Eng
theorem useM {P : Program} {F' : Frm} {cb : Nat} {f : FuncId} {args : List SV} {post : SV → Prop} (hM : ∀ b, F'.M b ↔ b = cb) (h : Contract F' P f args post) : ContractM Frm.nil P f args (.res cb F'.Inv) (fun r o1 => post r ∧ o1 = .gone) := by
  refine ⟨h.enters, fun R w ob hinv hobM hobw ho0 hargs hR => ?_⟩
  obtain ⟨h1, h2, h3, h4⟩ := ho0
  refine (h.calls R w (h4 w fun _ _ => rfl) hargs (fun b hb => ⟨(hR b hb).1, fun hm => by rw [hM] at hm; subst hm; exact h2 hb⟩)).mono ?_
  rintro e w' ⟨r, rfl, hpost, hrok, hevo, _⟩
  exact ⟨r, .gone, _, rfl, ⟨hpost, rfl⟩, fun b hb => .inl hb, fun b hb => hb, hrok, (fun b hb => by cases hb), trivial, ⟨hevo.os, hevo.tape, hevo.output, hevo.size, fun b hb hm => hevo.block b hb fun hf => hm (.inr (by rw [(hM b).1 hf]; rfl))⟩, trivial⟩
end Eng
theorem slB_bytesR (a : Option Addr) (cap : Nat) (z : List Int) (hz : ∀ n ∈ z, (Lit.int .u8 n).wf = true) : isBytes (slB a cap z) :=
  ⟨a, z.length, cap, _, rfl, fun i hi => ⟨z.getD i 0, by have := bounds_u8 (hz _ (getD_mem (d := 0) hi)); omega, by have := bounds_u8 (hz _ (getD_mem (d := 0) hi)); omega, rfl⟩⟩
theorem btw_len (lo hi : Int) : ∀ xs : List Due, (btw lo hi xs).length ≤ xs.length
  | [] => Nat.le_refl _
  | x :: xs => by
    have ih := btw_len lo hi xs
    simp only [btw]
    split
    · simp
    · split
      · simp only [List.length_cons]; omega
      · simp only [List.length_cons]; omega
theorem cat_due (xs ys : List Due) : rdEq (xs.length + ys.length) 3 (rdCat xs.length (dueRd xs.toArray) (dueRd ys.toArray)) (dueRd (xs ++ ys).toArray) := by
  intro i j hi hj
  unfold rdCat dueRd
  split
  · rename_i h
    have : (xs ++ ys).toArray[i]! = xs.toArray[i]! := by simp [getElem!_def, List.getElem?_append, h]
    rw [this]
  · rename_i h
    have : (xs ++ ys).toArray[i]! = ys.toArray[i - xs.length]! := by simp [getElem!_def, List.getElem?_append, h]
    rw [this]
set_option maxHeartbeats 2000000 in
set_option maxRecDepth 100000 in
theorem partsC (a : Option Addr) (cap : Nat) (z : List Int) (hz : ∀ n ∈ z, (Lit.int .u8 n).wf = true) (x1 x2 x3 : Int) (h1 : 0 ≤ x1 ∧ x1 ≤ 255) (h2 : 0 ≤ x2 ∧ x2 ≤ 255) (h3 : 0 ≤ x3 ∧ x3 ≤ 255) :
    Contract Frm.nil Try.prog 4 [slB a cap z, .i .u8 x1, .i .u8 x2, .i .u8 x3] (fun r => r = .b true) := by
  have hb := slB_bytesR a cap z hz
  have e1 : IntKind.i64.wrap x1 = x1 := w64 (by omega)
  have e2 : IntKind.i64.wrap x2 = x2 := w64 (by omega)
  have e3 : IntKind.i64.wrap x3 = x3 := w64 (by omega)
  have e4 : IntKind.i64.wrap (x1 + x2) = x1 + x2 := w64 (by omega)
  have e5 : IntKind.i64.wrap (x1 + x2 + x3) = x1 + x2 + x3 := w64 (by omega)
  refine contract_of Try.func4 rfl (by kernel_rfl) ?_
  simp only [Try.ntmps4, argEnv]
  (repeat refine Sat.seq ?_)
  (refine Sat.region_k fun k hk => ?_; simp -implicitDefEqProofs only [evr, id, reduceCtorEq, reduceIte, Nat.reduceMul, Nat.reduceAdd, Nat.reduceLT, Nat.reduceLeDiff, Nat.reduceEqDiff, Int.reduceLT, Int.reduceBEq, Int.reduceBNe, Nat.reduceBEq, ptr, due_one, due_0, due_1, due_2, planC, evn]; refine hk _ ?_; clear hk k; try show Sat _ _ _ _ _)
  (repeat refine Sat.seq ?_)
  (refine Sat.region_k fun k hk => ?_; simp -implicitDefEqProofs only [evr, id, reduceCtorEq, reduceIte, Nat.reduceMul, Nat.reduceAdd, Nat.reduceLT, Nat.reduceLeDiff, Nat.reduceEqDiff, Int.reduceLT, Int.reduceBEq, Int.reduceBNe, Nat.reduceBEq, ptr, due_one, due_0, due_1, due_2, planC, evn])
  refine wcall_plain (awakeC Frm.nil) rfl (by rintro _ rfl; exact ok_plain rfl) ?_
  rintro r rfl
  simp -implicitDefEqProofs only [evr, id, reduceCtorEq, reduceIte, Nat.reduceMul, Nat.reduceAdd, Nat.reduceLT, Nat.reduceLeDiff, Nat.reduceEqDiff, Int.reduceLT, Int.reduceBEq, Int.reduceBNe, Nat.reduceBEq, ptr, due_one, due_0, due_1, due_2, planC, evn]
  (refine hk _ ?_; clear hk k; try show Sat _ _ _ _ _)
  (repeat refine Sat.seq ?_)
  refine Sat.cond_b rfl (fun h => absurd h (by decide)) (fun _ => ?_)
  refine Sat.skip ?_
  simp only [thenK]
  (repeat refine Sat.seq ?_)
  (refine Sat.region_k fun k hk => ?_; simp -implicitDefEqProofs only [evr, id, reduceCtorEq, reduceIte, Nat.reduceMul, Nat.reduceAdd, Nat.reduceLT, Nat.reduceLeDiff, Nat.reduceEqDiff, Int.reduceLT, Int.reduceBEq, Int.reduceBNe, Nat.reduceBEq, ptr, due_one, due_0, due_1, due_2, planC, evn])
  refine wcall_make (newRC (slB a cap z) hb 200 (by decide)) ?_
  intro cb
  simp -implicitDefEqProofs only [evr, id, reduceCtorEq, reduceIte, Nat.reduceMul, Nat.reduceAdd, Nat.reduceLT, Nat.reduceLeDiff, Nat.reduceEqDiff, Int.reduceLT, Int.reduceBEq, Int.reduceBNe, Nat.reduceBEq, ptr, due_one, due_0, due_1, due_2, planC, evn]
  refine wcall_mut 0 (useM (F' := Frm.codes cb) (fun b => Iff.rfl) (rightC cb)) rfl rfl ?_
  rintro r o1 ⟨⟨p, hp, rfl⟩, rfl⟩
  simp -implicitDefEqProofs only [evr, id, reduceCtorEq, reduceIte, Nat.reduceMul, Nat.reduceAdd, Nat.reduceLT, Nat.reduceLeDiff, Nat.reduceEqDiff, Int.reduceLT, Int.reduceBEq, Int.reduceBNe, Nat.reduceBEq, ptr, due_one, due_0, due_1, due_2, planC, planS, renM, evn]
  intro b3
  (refine hk _ ?_; clear hk k; try show Sat _ _ _ _ _)
  obtain ⟨L, hL, hat, hlen, hby⟩ := plan_list p hp
  have hn : p.ts.length ≤ 1000 := by have := hp.len; omega
  have hok : ∀ t ∈ p.ts, tskOk t := fun t ht => (hp.ts t ht).ok
  have hbu : 0 ≤ p.burst ∧ p.burst ≤ 65536 := by rcases hp.buck with h | h <;> omega
  have hev : 0 ≤ p.every ∧ p.every ≤ 1073741824 := by rcases hp.buck with h | h <;> omega
  have btC : ∀ lo hi : Int, _ := fun lo hi => betweenC Frm.nil p lo hi hn hok hbu hev L hL hat (by omega)
  have snC := sentC Frm.nil p hn hok hbu hev L hL hat (by omega)
  have hS1 := (sentG_sub p.burst p.every ⟨p.burst * p.every, 0⟩ L)
  have hSby : ByAt (sentG p.burst p.every ⟨p.burst * p.every, 0⟩ L) := List.Pairwise.sublist hS1 hby
  have hSat : ∀ d ∈ sentG p.burst p.every ⟨p.burst * p.every, 0⟩ L, 0 ≤ d.at_ ∧ d.at_ < 1125899906842625 := fun d hd => by
    have := hat d (hS1.subset hd)
    omega
  have hSlen : (sentG p.burst p.every ⟨p.burst * p.every, 0⟩ L).length ≤ 5000 := Nat.le_trans hS1.length_le hlen
  generalize sentG p.burst p.every ⟨p.burst * p.every, 0⟩ L = S at btC snC hSby hSat hSlen
  clear hS1 hby hat hlen hL
  have hcat := btw_cat (a := x1) (b := x1 + x2) (d := x1 + x2 + x3) (by omega) (by omega) hSby
  have hall := btw_all hSat
  (repeat refine Sat.seq ?_)
  (refine Sat.region_k fun k hk => ?_; simp -implicitDefEqProofs only [evr, id, reduceCtorEq, reduceIte, Nat.reduceMul, Nat.reduceAdd, Nat.reduceLT, Nat.reduceLeDiff, Nat.reduceEqDiff, Int.reduceLT, Int.reduceBEq, Int.reduceBNe, Nat.reduceBEq, ptr, due_one, due_0, due_1, due_2, planC, evn])
  simp only [e1, e2, e4]
  (refine hk _ ?_; clear hk k; try show Sat _ _ _ _ _)
  (repeat refine Sat.seq ?_)
  (refine Sat.region_k fun k hk => ?_; simp -implicitDefEqProofs only [evr, id, reduceCtorEq, reduceIte, Nat.reduceMul, Nat.reduceAdd, Nat.reduceLT, Nat.reduceLeDiff, Nat.reduceEqDiff, Int.reduceLT, Int.reduceBEq, Int.reduceBNe, Nat.reduceBEq, ptr, due_one, due_0, due_1, due_2, planC, evn])
  simp only [e3, e5]
  (refine hk _ ?_; clear hk k; try show Sat _ _ _ _ _)
  (repeat refine Sat.seq ?_)
  (refine Sat.region_tree (.keep [1, 2, 6, 7, 0, 5] [3, 4] (.one 3 (.one 4 (.one 8 (.one 9 (.one 10 .done)))))) (by kernel_rfl) (by kernel_rfl) (fun _ _ h => h) fun k hk => ?_; simp only [WOT, List.map_cons, List.map_nil, List.getD_cons_zero, List.getD_cons_succ]; simp -implicitDefEqProofs only [evr, id, reduceCtorEq, reduceIte, Nat.reduceMul, Nat.reduceAdd, Nat.reduceLT, Nat.reduceLeDiff, Nat.reduceEqDiff, Int.reduceLT, Int.reduceBEq, Int.reduceBNe, Nat.reduceBEq, ptr, due_one, due_0, due_1, due_2, planC, WOT, evn])
  · refine wcall_slice (btC x1 (x1 + x2)) rfl (by simp -implicitDefEqProofs only [evr, id, reduceCtorEq, reduceIte, Nat.reduceMul, Nat.reduceAdd, Nat.reduceLT, Nat.reduceLeDiff, Nat.reduceEqDiff, Int.reduceLT, Int.reduceBEq, Int.reduceBNe, Nat.reduceBEq, ptr, due_one, due_0, due_1, due_2, planC, planS, evn]) ?_
    rintro r ⟨aa, ca, rfl⟩
    simp -implicitDefEqProofs only [evr, id, reduceCtorEq, reduceIte, Nat.reduceMul, Nat.reduceAdd, Nat.reduceLT, Nat.reduceLeDiff, Nat.reduceEqDiff, Int.reduceLT, Int.reduceBEq, Int.reduceBNe, Nat.reduceBEq, ptr, due_one, due_0, due_1, due_2, planC, evn]
    have l1 := btw_len x1 (x1 + x2) S
    have l2 := btw_len (x1 + x2) (x1 + x2 + x3) S
    have l3 := btw_len x1 (x1 + x2 + x3) S
    refine ⟨⟨by unfold maxLen; omega, by omega⟩, fun a3 c3 => ?_⟩
    refine wcall_slice (btC (x1 + x2) (x1 + x2 + x3)) rfl (by simp -implicitDefEqProofs only [evr, id, reduceCtorEq, reduceIte, Nat.reduceMul, Nat.reduceAdd, Nat.reduceLT, Nat.reduceLeDiff, Nat.reduceEqDiff, Int.reduceLT, Int.reduceBEq, Int.reduceBNe, Nat.reduceBEq, ptr, due_one, due_0, due_1, due_2, planC, planS, evn]) ?_
    rintro r ⟨ab, cb2, rfl⟩
    simp -implicitDefEqProofs only [evr, id, reduceCtorEq, reduceIte, Nat.reduceMul, Nat.reduceAdd, Nat.reduceLT, Nat.reduceLeDiff, Nat.reduceEqDiff, Int.reduceLT, Int.reduceBEq, Int.reduceBNe, Nat.reduceBEq, ptr, due_one, due_0, due_1, due_2, planC, evn]
    refine ⟨⟨by unfold maxLen; omega, by omega⟩, fun a4 c4 => ?_⟩
    (refine hk _ ?_; clear hk k; try show Sat _ _ _ _ _)
    have hl : (btw x1 (x1 + x2) S).length + (btw (x1 + x2) (x1 + x2 + x3) S).length = (btw x1 (x1 + x2 + x3) S).length := by rw [← hcat, List.length_append]
    have hrd := cat_due (btw x1 (x1 + x2) S) (btw (x1 + x2) (x1 + x2 + x3) S)
    rw [hcat, hl] at hrd
    simp only [hl]
    generalize rdCat (btw x1 (x1 + x2) S).length (dueRd (btw x1 (x1 + x2) S).toArray) (dueRd (btw (x1 + x2) (x1 + x2 + x3) S).toArray) = rdX at hrd ⊢
    refine Sat.le (st' := ⟨53, [(13, .os 2 a4 (btw x1 (x1 + x2 + x3) S).length c4), (12, .i .i64 (x1 + x2 + x3)), (10, .i .i64 x1), (9, .op 1 b3 0)],
      [.gone, .box b3 28 [.sl p.a p.ts.length p.cap 7 (tskRd p.ts), .i .i64 p.burst, .i .i64 p.every], .row a4 39 (btw x1 (x1 + x2 + x3) S).length c4 3 (dueRd (btw x1 (x1 + x2 + x3) S).toArray)]⟩) ?_ (by
        simp -implicitDefEqProofs only [evr, id, reduceCtorEq, reduceIte, Nat.reduceMul, Nat.reduceAdd, Nat.reduceLT, Nat.reduceLeDiff, Nat.reduceEqDiff, Int.reduceLT, Int.reduceBEq, Int.reduceBNe, Nat.reduceBEq, ptr, due_one, due_0, due_1, due_2, planC, evl, evn]
        repeat' (first | exact hrd | rfl | (refine And.intro ?_ ?_)))
    clear hrd hl hcat
    have btS := btC 0 1125899906842625
    rw [hall] at btS
    have same1 := sameC Frm.nil (btw x1 (x1 + x2 + x3) S) (by omega)
    have same2 := sameC Frm.nil S (by omega)
    have btX := btC x1 (x1 + x2 + x3)
    generalize btw x1 (x1 + x2 + x3) S = X at *
    (repeat refine Sat.seq ?_)
    (refine Sat.region_tree (.keep [0, 2, 3, 1] [] (.one 4 (.one 5 (.one 6 (.alt 7 (.alt 8 (.one 9 (.one 10 (.one 11 (.one 12 (.one 13 .done))))) (.alt 9 (.one 8 (.one 10 (.one 11 (.one 12 (.one 13 .done))))) .none)) (.alt 9 (.one 7 (.one 8 (.one 10 (.one 11 (.one 12 (.one 13 .done)))))) .none)))))) (by kernel_rfl) (by kernel_rfl) (fun _ _ h => h) fun k hk => ?_; simp only [WOT, List.map_cons, List.map_nil, List.getD_cons_zero, List.getD_cons_succ]; simp -implicitDefEqProofs only [evr, id, reduceCtorEq, reduceIte, Nat.reduceMul, Nat.reduceAdd, Nat.reduceLT, Nat.reduceLeDiff, Nat.reduceEqDiff, Int.reduceLT, Int.reduceBEq, Int.reduceBNe, Nat.reduceBEq, ptr, due_one, due_0, due_1, due_2, planC, WOT, evn])
    refine wcall_slice btX rfl (by simp -implicitDefEqProofs only [evr, id, reduceCtorEq, reduceIte, Nat.reduceMul, Nat.reduceAdd, Nat.reduceLT, Nat.reduceLeDiff, Nat.reduceEqDiff, Int.reduceLT, Int.reduceBEq, Int.reduceBNe, Nat.reduceBEq, ptr, due_one, due_0, due_1, due_2, planC, planS, evn]) ?_
    rintro r ⟨ax, cx, rfl⟩
    simp -implicitDefEqProofs only [evr, id, reduceCtorEq, reduceIte, Nat.reduceMul, Nat.reduceAdd, Nat.reduceLT, Nat.reduceLeDiff, Nat.reduceEqDiff, Int.reduceLT, Int.reduceBEq, Int.reduceBNe, Nat.reduceBEq, ptr, due_one, due_0, due_1, due_2, planC, evn]
    refine wcall_plain (same1 a4 ax c4 cx) (by simp -implicitDefEqProofs only [evr, id, reduceCtorEq, reduceIte, Nat.reduceMul, Nat.reduceAdd, Nat.reduceLT, Nat.reduceLeDiff, Nat.reduceEqDiff, Int.reduceLT, Int.reduceBEq, Int.reduceBNe, Nat.reduceBEq, ptr, due_one, due_0, due_1, due_2, planC, evn]) (by rintro _ rfl; exact ok_plain rfl) ?_
    rintro r rfl
    simp -implicitDefEqProofs only [evr, id, reduceCtorEq, reduceIte, Nat.reduceMul, Nat.reduceAdd, Nat.reduceLT, Nat.reduceLeDiff, Nat.reduceEqDiff, Int.reduceLT, Int.reduceBEq, Int.reduceBNe, Nat.reduceBEq, ptr, due_one, due_0, due_1, due_2, planC, evn]
    repeat' (first
      | (with_reducible refine And.intro ?_ ?_)
      | (with_reducible intro hh; exact absurd hh (by decide))
      | (with_reducible intro hh)
      | (with_reducible refine hk _ ?_
         show Sat _ _ _ _ _
         refine Sat.ret ?_
         simp only [Try.results4, evr, id, reduceCtorEq, reduceIte, Nat.reduceMul, Nat.reduceAdd, Nat.reduceLT, Nat.reduceLeDiff, Nat.reduceEqDiff, Int.reduceLT, Int.reduceBEq, Int.reduceBNe, Nat.reduceBEq, ptr, due_one, due_0, due_1, due_2, List.append_nil, Int.toNat_zero, Nat.sub_self, planC]
         done)
      | (refine wcall_slice btS rfl (by simp -implicitDefEqProofs only [evr, id, reduceCtorEq, reduceIte, Nat.reduceMul, Nat.reduceAdd, Nat.reduceLT, Nat.reduceLeDiff, Nat.reduceEqDiff, Int.reduceLT, Int.reduceBEq, Int.reduceBNe, Nat.reduceBEq, ptr, due_one, due_0, due_1, due_2, planC, planS, evn]) ?_
         rintro r ⟨as1, cs1, rfl⟩
         simp -implicitDefEqProofs only [evr, id, reduceCtorEq, reduceIte, Nat.reduceMul, Nat.reduceAdd, Nat.reduceLT, Nat.reduceLeDiff, Nat.reduceEqDiff, Int.reduceLT, Int.reduceBEq, Int.reduceBNe, Nat.reduceBEq, ptr, due_one, due_0, due_1, due_2, planC, evn])
      | (refine wcall_slice snC rfl (by simp -implicitDefEqProofs only [evr, id, reduceCtorEq, reduceIte, Nat.reduceMul, Nat.reduceAdd, Nat.reduceLT, Nat.reduceLeDiff, Nat.reduceEqDiff, Int.reduceLT, Int.reduceBEq, Int.reduceBNe, Nat.reduceBEq, ptr, due_one, due_0, due_1, due_2, planC, planS, evn]) ?_
         rintro r ⟨as2, cs2, rfl⟩
         simp -implicitDefEqProofs only [evr, id, reduceCtorEq, reduceIte, Nat.reduceMul, Nat.reduceAdd, Nat.reduceLT, Nat.reduceLeDiff, Nat.reduceEqDiff, Int.reduceLT, Int.reduceBEq, Int.reduceBNe, Nat.reduceBEq, ptr, due_one, due_0, due_1, due_2, planC, evn])
      | (refine wcall_plain (same2 _ _ _ _) rfl (by rintro _ rfl; exact ok_plain rfl) ?_
         rintro r rfl
         simp -implicitDefEqProofs only [evr, id, reduceCtorEq, reduceIte, Nat.reduceMul, Nat.reduceAdd, Nat.reduceLT, Nat.reduceLeDiff, Nat.reduceEqDiff, Int.reduceLT, Int.reduceBEq, Int.reduceBNe, Nat.reduceBEq, ptr, due_one, due_0, due_1, due_2, planC, evn]))
theorem parts_holds : Rows.SchedulePartsSaid := scheduleParts.of_walk fun a0 z0 a1 a2 a3 w ⟨h, hz⟩ w1 w2 w3 => by
  obtain ⟨a, cap, rfl, hok⟩ := slB_of h
  exact walk_of (partsC a cap z0 hz a1 a2 a3 (by have := bounds_u8 w1; omega) (by have := bounds_u8 w2; omega) (by have := bounds_u8 w3; omega)) (fun s hs => by
    simp only [List.mem_cons, List.not_mem_nil, or_false] at hs
    rcases hs with rfl | rfl | rfl | rfl
    · exact hok
    · trivial
    · trivial
    · trivial)
end Go.Proofs.Ytgimngpcfenoaaa
