import Derived.Test.YtfeiiadligkamaaGreatWitE
import Derived.Test.YtfeiiadligkamaaGreatTreSrt7
import Derived.Test.YtfeiiadligkamaaGreatTreCpt
import Derived.Test.YtfeiiadligkamaaGreatCmqE

/- The traces of results, by the evaluator: paths.Traces. -/
set_option linter.unusedSimpArgs false
set_option linter.unusedVariables false
namespace Go.Proofs.YtfeiiadligkamaaGreat
open Go.Sort Eng
set_option maxRecDepth 100000 in
theorem trcFnC (F : Frm) (x y : Tre) : Contract F Tryz.prog 115 [treAg x, treAg y] (fun r => r = .i .i64 (treCmpI x y)) := by
 refine contract_of Tryz.func115 rfl (by kernel_rfl) ?_
 simp only [Tryz.ntmps115, argEnv, treAg, Tre.cs]
 (repeat refine Sat.seq ?_)
 (refine Sat.region_k fun k hk => ?_; simp -implicitDefEqProofs only [evr, id, reduceCtorEq, reduceIte, Nat.reduceMul, Nat.reduceAdd, Nat.reduceLT, Nat.reduceLeDiff, Nat.reduceEqDiff, Int.reduceLT, Int.reduceBEq, Int.reduceBNe, Nat.reduceBEq, res_one, Int.reduceToNat, resRow, res_ro, treRow, tre_one, tre_ro, evn])
 intro blk1 blk2
 (refine hk _ ?_; clear hk k; try show Sat _ _ _ _ _)
 (repeat refine Sat.seq ?_)
 (refine Sat.region_tree (OT.keep [0, 2, 5, 7, 10, 12, 1, 3, 6, 8, 11, 13] [4, 9] (BT.one 4 (BT.one 9 (BT.one 14 (BT.one 15 (BT.one 16 (BT.one 17 BT.done))))))) (by kernel_rfl) (by kernel_rfl) (fun _ _ h => h) fun k hk => ?_; simp only [WOT, List.map_cons, List.map_nil, List.getD_cons_zero, List.getD_cons_succ]; simp -implicitDefEqProofs only [evr, id, reduceCtorEq, reduceIte, Nat.reduceMul, Nat.reduceAdd, Nat.reduceLT, Nat.reduceLeDiff, Nat.reduceEqDiff, Int.reduceLT, Int.reduceBEq, Int.reduceBNe, Nat.reduceBEq, res_one, Int.reduceToNat, resRow, res_ro, treRow, tre_one, tre_ro, WOT, evn])
 refine wcall_plain (cmpC F x.van y.van) rfl (by rintro _ rfl; exact ok_plain rfl) ?_
 rintro r rfl
 simp -implicitDefEqProofs only [evr, id, reduceCtorEq, reduceIte, Nat.reduceMul, Nat.reduceAdd, Nat.reduceLT, Nat.reduceLeDiff, Nat.reduceEqDiff, Int.reduceLT, Int.reduceBEq, Int.reduceBNe, Nat.reduceBEq, res_one, Int.reduceToNat, resRow, res_ro, treRow, tre_one, tre_ro, evn]
 refine wcall_plain (cmpAC F x.dst y.dst) rfl (by rintro _ rfl; exact ok_plain rfl) ?_
 rintro r rfl
 simp -implicitDefEqProofs only [evr, id, reduceCtorEq, reduceIte, Nat.reduceMul, Nat.reduceAdd, Nat.reduceLT, Nat.reduceLeDiff, Nat.reduceEqDiff, Int.reduceLT, Int.reduceBEq, Int.reduceBNe, Nat.reduceBEq, res_one, Int.reduceToNat, resRow, res_ro, treRow, tre_one, tre_ro, evn]
 refine wcall_plain (cmpC F x.pro y.pro) rfl (by rintro _ rfl; exact ok_plain rfl) ?_
 rintro r rfl
 simp -implicitDefEqProofs only [evr, id, reduceCtorEq, reduceIte, Nat.reduceMul, Nat.reduceAdd, Nat.reduceLT, Nat.reduceLeDiff, Nat.reduceEqDiff, Int.reduceLT, Int.reduceBEq, Int.reduceBNe, Nat.reduceBEq, res_one, Int.reduceToNat, resRow, res_ro, treRow, tre_one, tre_ro, evn]
 intro blk3
 refine wcall_plain (orC F (some ⟨blk3, 0, none⟩) 3 [ordI x.van y.van, ordI x.dst y.dst, ordI x.pro y.pro] (by simp)) (by simp -implicitDefEqProofs only [evr, id, reduceCtorEq, reduceIte, Nat.reduceMul, Nat.reduceAdd, Nat.reduceLT, Nat.reduceLeDiff, Nat.reduceEqDiff, Int.reduceLT, Int.reduceBEq, Int.reduceBNe, Nat.reduceBEq, res_one, Int.reduceToNat, resRow, res_ro, treRow, tre_one, tre_ro, intsRd, evn]) (by rintro _ rfl; exact ok_plain rfl) ?_
 rintro r rfl
 simp -implicitDefEqProofs only [evr, id, reduceCtorEq, reduceIte, Nat.reduceMul, Nat.reduceAdd, Nat.reduceLT, Nat.reduceLeDiff, Nat.reduceEqDiff, Int.reduceLT, Int.reduceBEq, Int.reduceBNe, Nat.reduceBEq, res_one, Int.reduceToNat, resRow, res_ro, treRow, tre_one, tre_ro, evn]
 (refine hk _ ?_; clear hk k; try show Sat _ _ _ _ _)
 refine Sat.ret ?_
 simp only [Tryz.results115, evr, id, reduceCtorEq, reduceIte, Nat.reduceMul, Nat.reduceAdd, Nat.reduceLT, Nat.reduceLeDiff, Nat.reduceEqDiff, Int.reduceLT, Int.reduceBEq, Int.reduceBNe, Nat.reduceBEq, res_one, List.append_nil, Int.toNat_zero, Nat.sub_self, Int.reduceToNat, resRow, res_ro, treRow, tre_one, tre_ro]
 rfl
theorem treCmp1 : treCmp 115 treLt := fun x y => ⟨treCmpI x y, rfl, fun F => trcFnC F x y⟩
theorem trcAg_ok (x : Res) (R : Nat → Prop) (w : World) : (trcAg x).ok R w := by
 intro j hj
 rcases (show j = 0 ∨ j = 1 ∨ j = 2 by omega) with rfl | rfl | rfl <;> trivial
def Res.tre (r : Res) : Tre := ⟨r.vantage, r.dst, r.proto⟩
def TracesOf (xs : List Res) (ts : List Tre) : Prop := (ts.Pairwise fun a b => treLt a b = true) ∧ ∀ t, t ∈ ts ↔ ∃ r ∈ xs, validR r = true ∧ r.tre = t
theorem tre_sorted {xs : List Res} {N : Nat} {fs : List Tre} {d' : Array Tre} (hf : fs = (xs.filter validR).map Res.tre) (hN : fs.length = N) (hd : d'.size = N) (hp : PermIn 0 N fs.toArray d') (hs : SortedIn treLt 0 N d') : TracesOf xs (compactT d'.toList) ∧ (compactT d'.toList).length ≤ N := by
 subst hN
 have h := hp.2.2
 have e1 : (d'.extract 0 fs.length) = d' := by rw [← hd]; simp
 have e2 : (fs.toArray.extract 0 fs.length) = fs.toArray := by simp
 rw [e1, e2] at h
 have hm : ∀ r, r ∈ d'.toList ↔ r ∈ fs := fun r => by simpa using h.mem_iff
 have hs' : d'.toList.Pairwise fun a b => treLt b a = false := by
  rw [List.pairwise_iff_getElem]
  intro i j hi hj hij
  have hi' : i < d'.size := by simpa using hi
  have hj' : j < d'.size := by simpa using hj
  have := hs i j (Nat.zero_le _) hij (by omega)
  simpa [getElem!_def, hi', hj'] using this
 refine ⟨⟨compactT_asc _ hs', fun t => (compactT_mem _ t).trans ((hm t).trans ?_)⟩, ?_⟩
 ·rw [hf]
  simp only [List.mem_map, List.mem_filter]
  exact ⟨fun ⟨r, ⟨h1, h2⟩, h3⟩ => ⟨r, h1, h2, h3⟩, fun ⟨r, h1, h2, h3⟩ => ⟨r, ⟨h1, h2⟩, h3⟩⟩
 ·have := compactT_le d'.toList
  simp only [Array.length_toList] at this
  omega
theorem tre_app {ys : List Tre} {x : Tre} {cs : List SV} (h : cs = Tre.cs x) : rdEq (ys.length + 1) 3 (rdCat ys.length (treRd ys.toArray) (rdL cs 3)) (treRd (ys ++ [x]).toArray) := by
 subst h
 refine rdEq_snoc (fun i j hi hj => ?_) (fun j hj => ?_)
 ·unfold treRd
  simp [getElem!_def, List.getElem?_append, hi]
 ·unfold treRd
  simp [getElem!_def]
theorem TracesOf.one {xs : List Res} {ts : List Tre} (h : TracesOf xs ts) : ts.length ≤ 1 ↔ ∀ r ∈ xs, ∀ s ∈ xs, validR r = true → validR s = true → r.tre = s.tre := by
 constructor
 ·intro hl r hr s hs vr vs
  have h1 := (h.2 r.tre).2 ⟨r, hr, vr, rfl⟩
  have h2 := (h.2 s.tre).2 ⟨s, hs, vs, rfl⟩
  match ts, hl, h1, h2 with
  | [t], _, h1, h2 => simp at h1 h2; rw [h1, h2]
 ·intro ha
  match ts, h with
  | [], _ => simp
  | [t], _ => simp
  | t :: u :: l, h =>
   obtain ⟨r, hr, vr, er⟩ := (h.2 t).1 (by simp)
   obtain ⟨s, hs, vs, es⟩ := (h.2 u).1 (by simp)
   have hlt := (List.pairwise_cons.1 h.1).1 u (by simp)
   rw [← er, ← es, ha r hr s hs vr vs, treLt_irrefl] at hlt
   cases hlt
set_option maxRecDepth 100000 in
theorem tracesC (F : Frm) (ad : Option Addr) (cap : Nat) (xs : List Res) (hl : xs.length ≤ 1000000000) :
  ContractN F Tryz.prog 84 [.sl ad xs.length cap 17 (resRd xs.toArray)] (fun o => ∃ a cap ts, TracesOf xs ts ∧ ts.length ≤ xs.length ∧ o = treRow a ts.length cap ts.toArray) := by
 refine contractN_of Tryz.func84 rfl (by kernel_rfl) ?_
 simp only [Tryz.ntmps84, argEnv]
 (repeat refine Sat.seq ?_)
 (refine Sat.region_k fun k hk => ?_; simp -implicitDefEqProofs only [evr, id, reduceCtorEq, reduceIte, Nat.reduceMul, Nat.reduceAdd, Nat.reduceLT, Nat.reduceLeDiff, Nat.reduceEqDiff, Int.reduceLT, Int.reduceBEq, Int.reduceBNe, Nat.reduceBEq, res_one, Int.reduceToNat, resRow, res_ro, treRow, tre_one, tre_ro, evn]; refine hk _ ?_; clear hk k; try show Sat _ _ _ _ _)
 (repeat refine Sat.seq ?_)
 (refine Sat.region_k fun k hk => ?_; simp -implicitDefEqProofs only [evr, id, reduceCtorEq, reduceIte, Nat.reduceMul, Nat.reduceAdd, Nat.reduceLT, Nat.reduceLeDiff, Nat.reduceEqDiff, Int.reduceLT, Int.reduceBEq, Int.reduceBNe, Nat.reduceBEq, res_one, Int.reduceToNat, resRow, res_ro, treRow, tre_one, tre_ro, evn]; refine hk _ ?_; clear hk k; try show Sat _ _ _ _ _)
 (repeat refine Sat.seq ?_)
 (refine Sat.region_k fun k hk => ?_; simp -implicitDefEqProofs only [evr, id, reduceCtorEq, reduceIte, Nat.reduceMul, Nat.reduceAdd, Nat.reduceLT, Nat.reduceLeDiff, Nat.reduceEqDiff, Int.reduceLT, Int.reduceBEq, Int.reduceBNe, Nat.reduceBEq, res_one, Int.reduceToNat, resRow, res_ro, treRow, tre_one, tre_ro, evn]; refine hk _ ?_; clear hk k; try show Sat _ _ _ _ _)
 (repeat refine Sat.seq ?_)
 refine Sat.adopt 3 68 3 (treRd #[]) rfl ?_
 refine Sat.block ?_
 refine Sat.loop (ι := Nat × Option Addr × Nat × List Tre) (fun z => ⟨24, [(8, .i .i64 z.1), (7, .i .i64 xs.length), (6, .sl ad xs.length cap 17 (resRd xs.toArray)), (3, .os 0 z.2.1 z.2.2.2.length z.2.2.1)], [treRow z.2.1 z.2.2.2.length z.2.2.1 z.2.2.2.toArray]⟩)
  (fun z => z.1 ≤ xs.length ∧ z.2.2.2 = ((xs.take z.1).filter validR).map Res.tre) (fun z => xs.length - z.1) (0, none, 0, []) ⟨Nat.zero_le _, rfl⟩ (by simp -implicitDefEqProofs only [evr, id, reduceCtorEq, reduceIte, Nat.reduceMul, Nat.reduceAdd, Nat.reduceLT, Nat.reduceLeDiff, Nat.reduceEqDiff, Int.reduceLT, Int.reduceBEq, Int.reduceBNe, Nat.reduceBEq, res_one, Int.reduceToNat, resRow, res_ro, treRow, tre_one, tre_ro, evl, evn]; rfl) ?_
 rintro ⟨i, a, c, ys⟩ ⟨hi, hy⟩
 simp only [treRow] at hi hy ⊢
 have hyl : ys.length ≤ i := by rw [hy, List.length_map]; exact filter_take_len
 (repeat refine Sat.seq ?_)
 (refine Sat.region_k fun k hk => ?_; simp -implicitDefEqProofs only [evr, id, reduceCtorEq, reduceIte, Nat.reduceMul, Nat.reduceAdd, Nat.reduceLT, Nat.reduceLeDiff, Nat.reduceEqDiff, Int.reduceLT, Int.reduceBEq, Int.reduceBNe, Nat.reduceBEq, res_one, Int.reduceToNat, resRow, res_ro, treRow, tre_one, tre_ro, evn]; refine hk _ ?_; clear hk k; try show Sat _ _ _ _ _)
 (repeat refine Sat.seq ?_)
 refine Sat.cond_b rfl (fun h => ?_) (fun h => ?_)
 ·have h1 : i < xs.length := by simp only [decide_eq_true_eq] at h; omega
  have e2 : IntKind.i64.wrap ((i : Int) + 1) = ((i + 1 : Nat) : Int) := by rw [w64 (by omega)]; omega
  have hstep := filter_take_succ (p := validR) h1
  refine Sat.skip ?_
  simp only [thenK]
  (repeat refine Sat.seq ?_)
  refine Sat.block ?_
  (repeat refine Sat.seq ?_)
  (refine Sat.region_k fun k hk => ?_; simp -implicitDefEqProofs only [evr, id, reduceCtorEq, reduceIte, Nat.reduceMul, Nat.reduceAdd, Nat.reduceLT, Nat.reduceLeDiff, Nat.reduceEqDiff, Int.reduceLT, Int.reduceBEq, Int.reduceBNe, Nat.reduceBEq, res_one, Int.reduceToNat, resRow, res_ro, treRow, tre_one, tre_ro, evn])
  refine ⟨by omega, ?_⟩
  intro b2
  (refine hk _ ?_; clear hk k; try show Sat _ _ _ _ _)
  (repeat refine Sat.seq ?_)
  (refine Sat.region_k fun k hk => ?_; simp -implicitDefEqProofs only [evr, id, reduceCtorEq, reduceIte, Nat.reduceMul, Nat.reduceAdd, Nat.reduceLT, Nat.reduceLeDiff, Nat.reduceEqDiff, Int.reduceLT, Int.reduceBEq, Int.reduceBNe, Nat.reduceBEq, res_one, Int.reduceToNat, resRow, res_ro, treRow, tre_one, tre_ro, evn])
  refine wcall_plain (validC F xs.toArray[i]!) rfl (by rintro _ rfl; exact ok_plain rfl) ?_
  rintro r rfl
  simp -implicitDefEqProofs only [evr, id, reduceCtorEq, reduceIte, Nat.reduceMul, Nat.reduceAdd, Nat.reduceLT, Nat.reduceLeDiff, Nat.reduceEqDiff, Int.reduceLT, Int.reduceBEq, Int.reduceBNe, Nat.reduceBEq, res_one, Int.reduceToNat, resRow, res_ro, treRow, tre_one, tre_ro, evn]
  (refine hk _ ?_; clear hk k; try show Sat _ _ _ _ _)
  (repeat refine Sat.seq ?_)
  refine Sat.cond_b rfl (fun h2 => ?_) (fun h2 => ?_)
  ·(repeat refine Sat.seq ?_)
   (refine Sat.region_k fun k hk => ?_; simp -implicitDefEqProofs only [evr, id, reduceCtorEq, reduceIte, Nat.reduceMul, Nat.reduceAdd, Nat.reduceLT, Nat.reduceLeDiff, Nat.reduceEqDiff, Int.reduceLT, Int.reduceBEq, Int.reduceBNe, Nat.reduceBEq, res_one, Int.reduceToNat, resRow, res_ro, treRow, tre_one, tre_ro, evn])
   refine wcall_plain (traceOfC F xs.toArray[i]!) rfl (by rintro _ rfl; exact trcAg_ok _) ?_
   rintro r rfl
   simp only [trcAg, evr, id, reduceCtorEq, reduceIte, Nat.reduceMul, Nat.reduceAdd, Nat.reduceLT, Nat.reduceLeDiff, Nat.reduceEqDiff, Int.reduceLT, Int.reduceBEq, Int.reduceBNe, Nat.reduceBEq, res_one, List.append_nil, Int.toNat_zero, Nat.sub_self, Int.reduceToNat, resRow, res_ro, treRow, tre_one, tre_ro]
   intro b3
   refine ⟨⟨by unfold maxLen; omega, by omega⟩, fun a2 cap2 => ?_⟩
   (refine hk _ ?_; clear hk k; try show Sat _ _ _ _ _)
   refine Sat.region_k fun k hk => ?_
   simp -implicitDefEqProofs only [evr, id, reduceCtorEq, reduceIte, Nat.reduceMul, Nat.reduceAdd, Nat.reduceLT, Nat.reduceLeDiff, Nat.reduceEqDiff, Int.reduceLT, Int.reduceBEq, Int.reduceBNe, Nat.reduceBEq, res_one, Int.reduceToNat, resRow, res_ro, treRow, tre_one, tre_ro, e2, evn]
   refine hk _ ?_
   simp only [thenK, blockK]
   have e3 : ys ++ [xs[i].tre] = ((xs.take (i + 1)).filter validR).map Res.tre := by
    rw [getB h1] at h2
    rw [hstep, List.map_append, ← hy, if_pos h2]; rfl
   refine ⟨(i + 1, a2, cap2, ys ++ [xs[i].tre]), ⟨by simp only; omega, e3⟩, by simp only; omega, ?_⟩
   simp only [List.length_append, List.length_singleton]
   simp -implicitDefEqProofs only [evr, id, reduceCtorEq, reduceIte, Nat.reduceMul, Nat.reduceAdd, Nat.reduceLT, Nat.reduceLeDiff, Nat.reduceEqDiff, Int.reduceLT, Int.reduceBEq, Int.reduceBNe, Nat.reduceBEq, res_one, Int.reduceToNat, resRow, res_ro, treRow, tre_one, tre_ro, evl, evn]
   exact tre_app (by rw [getB h1]; rfl)
  ·refine Sat.skip ?_
   simp only [thenK, blockK]
   refine Sat.region_k fun k hk => ?_
   simp -implicitDefEqProofs only [evr, id, reduceCtorEq, reduceIte, Nat.reduceMul, Nat.reduceAdd, Nat.reduceLT, Nat.reduceLeDiff, Nat.reduceEqDiff, Int.reduceLT, Int.reduceBEq, Int.reduceBNe, Nat.reduceBEq, res_one, Int.reduceToNat, resRow, res_ro, treRow, tre_one, tre_ro, e2, evn]
   refine hk _ ?_
   simp only [thenK, blockK]
   refine ⟨(i + 1, a, c, ys), ⟨by simp only; omega, ?_⟩, by simp only; omega, ?_⟩
   ·rw [getB h1] at h2
    simp only
    rw [hstep, List.map_append, ← hy, if_neg (by rw [h2]; simp), List.map_nil, List.append_nil]
   ·simp -implicitDefEqProofs only [evr, id, reduceCtorEq, reduceIte, Nat.reduceMul, Nat.reduceAdd, Nat.reduceLT, Nat.reduceLeDiff, Nat.reduceEqDiff, Int.reduceLT, Int.reduceBEq, Int.reduceBNe, Nat.reduceBEq, res_one, Int.reduceToNat, resRow, res_ro, treRow, tre_one, tre_ro, evl, evn]
 ·have h1 : i = xs.length := by simp only [decide_eq_false_iff_not] at h; omega
  have hys : ys = (xs.filter validR).map Res.tre := by rw [hy, h1, List.take_length]
  refine Sat.exit ?_
  simp only [thenK, blockK, reduceIte]
  (repeat refine Sat.seq ?_)
  (refine Sat.region_k fun k hk => ?_; simp -implicitDefEqProofs only [evr, id, reduceCtorEq, reduceIte, Nat.reduceMul, Nat.reduceAdd, Nat.reduceLT, Nat.reduceLeDiff, Nat.reduceEqDiff, Int.reduceLT, Int.reduceBEq, Int.reduceBNe, Nat.reduceBEq, res_one, Int.reduceToNat, resRow, res_ro, treRow, tre_one, tre_ro, evn])
  refine wcall_mut 0 (treSortC F treLt_swo treCmp1 a c ys.length (by omega) ys.toArray (by simp)) rfl rfl ?_
  rintro r o1 ⟨rfl, d', hd', ⟨hperm, hsort⟩, rfl⟩
  simp -implicitDefEqProofs only [evr, id, reduceCtorEq, reduceIte, Nat.reduceMul, Nat.reduceAdd, Nat.reduceLT, Nat.reduceLeDiff, Nat.reduceEqDiff, Int.reduceLT, Int.reduceBEq, Int.reduceBNe, Nat.reduceBEq, res_one, Int.reduceToNat, resRow, res_ro, treRow, tre_one, tre_ro, evn]
  (refine hk _ ?_; clear hk k; try show Sat _ _ _ _ _)
  (repeat refine Sat.seq ?_)
  (refine Sat.region_k fun k hk => ?_; simp -implicitDefEqProofs only [evr, id, reduceCtorEq, reduceIte, Nat.reduceMul, Nat.reduceAdd, Nat.reduceLT, Nat.reduceLeDiff, Nat.reduceEqDiff, Int.reduceLT, Int.reduceBEq, Int.reduceBNe, Nat.reduceBEq, res_one, Int.reduceToNat, resRow, res_ro, treRow, tre_one, tre_ro, evn])
  refine wcall_mut 0 (compactTC F a c ys.length (by omega) d' hd') rfl rfl ?_
  rintro r o1 ⟨rfl, rfl⟩
  simp -implicitDefEqProofs only [evr, id, reduceCtorEq, reduceIte, Nat.reduceMul, Nat.reduceAdd, Nat.reduceLT, Nat.reduceLeDiff, Nat.reduceEqDiff, Int.reduceLT, Int.reduceBEq, Int.reduceBNe, Nat.reduceBEq, res_one, Int.reduceToNat, resRow, res_ro, treRow, tre_one, tre_ro, evn]
  (refine hk _ ?_; clear hk k; try show Sat _ _ _ _ _)
  refine Sat.ret ?_
  simp only [Tryz.results84, evr, id, reduceCtorEq, reduceIte, Nat.reduceMul, Nat.reduceAdd, Nat.reduceLT, Nat.reduceLeDiff, Nat.reduceEqDiff, Int.reduceLT, Int.reduceBEq, Int.reduceBNe, Nat.reduceBEq, res_one, List.append_nil, Int.toNat_zero, Nat.sub_self, Int.reduceToNat, resRow, res_ro, treRow, tre_one, tre_ro, retN, retNK, newRow]
  obtain ⟨g1, g2⟩ := tre_sorted hys rfl hd' hperm hsort
  exact ⟨⟨rfl, rfl, rfl⟩, a, c, compactT d'.toList, g1, by omega, rfl⟩
end Go.Proofs.YtfeiiadligkamaaGreat
