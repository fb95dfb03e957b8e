/- The reference's results of a trace, by the evaluator: Of. -/
import Derived.Test.YtkpmihaaijiihaaGreatR24G
import Derived.Test.YtkpmihaaijiihaaGreatRltE
import Derived.Test.YtkpmihaaijiihaaGreatWalkE
import Derived.Test.YtkpmihaaijiihaaGreatWitE
import Derived.Test.YtkpmihaaijiihaaGreatEpcE
import Derived.Test.YtkpmihaaijiihaaGreatPk3
import Derived.Test.YtkpmihaaijiihaaGreatCodesE
import Derived.Test.YtkpmihaaijiihaaGreatPoE
import Derived.Test.YtkpmihaaijiihaaGreatDiceE
import Derived.Test.YtkpmihaaijiihaaGreatOraA
import Derived.Test.YtkpmihaaijiihaaGreatOpenE
set_option linter.unusedSimpArgs false
set_option linter.unusedVariables false
namespace Go.Proofs.YtkpmihaaijiihaaGreat
open Go.Sort Eng
theorem tre_eql (a b c d e f : Int) : aggEq Tryz.prog 63 3 (fun j => [SV.i .i64 a, SV.i .u32 b, SV.i .i64 c].getD j default) 3 (fun j => [SV.i .i64 d, SV.i .u32 e, SV.i .i64 f].getD j default) = some (decide ((⟨a, b, c⟩ : Tre) = ⟨d, e, f⟩)) := tre_eq ⟨a, b, c⟩ ⟨d, e, f⟩
def isTre (t : Tre) (r : Res) : Bool := decide (r.tre = t)
set_option maxRecDepth 100000 in
theorem ofG (F : Frm) (ad : Option Addr) (cap : Nat) (xs : List Res) (t : Tre) (hl : xs.length ≤ 1000000000) (hin : ∀ r ∈ xs, RgR r) :
    ContractN F Tryz.prog 29 [.sl ad xs.length cap 17 (resRd xs.toArray), treAg t] (fun o => ∃ (a : Option Addr) (cap : Nat) (ys : List Res), OrdOf xs ys ∧ ys.length ≤ xs.length ∧ o = resRow a (ys.filter (isTre t)).length cap (ys.filter (isTre t)).toArray) := by
  refine contractN_of Tryz.func29 rfl (by kernel_rfl) ?_
  simp only [Tryz.ntmps29, argEnv, treAg, Tre.cs]
  (repeat refine Sat.seq ?_)
  (refine Sat.region_k fun k hk => ?_; simp -implicitDefEqProofs only [evr, id, seval, res_one, resRow, res_ro, tre_eql, evn])
  intro b1
  (refine hk _ ?_; clear hk k; try show Sat _ _ _ _ _)
  (repeat refine Sat.seq ?_)
  (refine Sat.region_k fun k hk => ?_; simp -implicitDefEqProofs only [evr, id, seval, res_one, resRow, res_ro, tre_eql, evn])
  refine wcall_new (orderG F ad cap xs hl hin) rfl rfl ?_
  rintro ra ty len rc sz rrd ⟨a, c, ys, ho, hyl, e⟩
  simp only [resRow, Own.row.injEq] at e
  obtain ⟨rfl, rfl, rfl, rfl, rfl, rfl⟩ := e
  simp -implicitDefEqProofs only [evr, id, seval, res_one, resRow, res_ro, tre_eql, evn]
  (refine hk _ ?_; clear hk k; try show Sat _ _ _ _ _)
  refine Sat.settle2 5 rfl rfl ?_
  simp -implicitDefEqProofs only [evr, id, seval, res_one, resRow, res_ro, tre_eql, evn]
  (repeat refine Sat.seq ?_)
  (refine Sat.region_k fun k hk => ?_; simp -implicitDefEqProofs only [evr, id, seval, res_one, resRow, res_ro, tre_eql, evn]; refine hk _ ?_; clear hk k; try show Sat _ _ _ _ _)
  (repeat refine Sat.seq ?_)
  (refine Sat.region_k fun k hk => ?_; simp -implicitDefEqProofs only [evr, id, seval, res_one, resRow, res_ro, tre_eql, evn]; refine hk _ ?_; clear hk k; try show Sat _ _ _ _ _)
  refine Sat.adopt 6 54 17 (resRd #[]) rfl ?_
  (repeat refine Sat.seq ?_)
  refine Sat.block ?_
  refine Sat.loop (ι := Nat × Option Addr × Nat × List Res) (fun z => ⟨31, [(7, .i .i64 z.1), (6, .os 2 z.2.1 z.2.2.2.length z.2.2.1), (5, .sl ra ys.length rc 17 (resRd ys.toArray)), (3, .op 0 b1 0)], [.box b1 63 (Tre.cs t), .gone, resRow z.2.1 z.2.2.2.length z.2.2.1 z.2.2.2.toArray]⟩)
    (fun z => z.1 ≤ ys.length ∧ z.2.2.2 = (ys.take z.1).filter (isTre t)) (fun z => ys.length - z.1) (0, none, 0, []) ⟨Nat.zero_le _, rfl⟩ (by simp only [Tre.cs]; simp -implicitDefEqProofs only [evr, id, seval, res_one, resRow, res_ro, tre_eql, evl, evn]; first | rfl | trace_state) ?_
  rintro ⟨i, a, c, zs⟩ ⟨hi, hy⟩
  simp only [resRow, Tre.cs] at hi hy ⊢
  have hzl : zs.length ≤ i := by rw [hy]; exact filter_take_len
  (repeat refine Sat.seq ?_)
  (refine Sat.region_k fun k hk => ?_; simp -implicitDefEqProofs only [evr, id, seval, res_one, resRow, res_ro, tre_eql, evn]; refine hk _ ?_; clear hk k; try show Sat _ _ _ _ _)
  (repeat refine Sat.seq ?_)
  refine Sat.cond_b rfl (fun h => ?_) (fun h => ?_)
  · have h1 : i < ys.length := by simp only [decide_eq_true_eq] at h; omega
    have e2 : IntKind.i64.wrap ((i : Int) + 1) = ((i + 1 : Nat) : Int) := by rw [w64 (by omega)]; omega
    have hstep := filter_take_succ (p := isTre t) h1
    refine Sat.skip ?_
    simp only [thenK]
    (repeat refine Sat.seq ?_)
    refine Sat.block ?_
    (repeat refine Sat.seq ?_)
    (refine Sat.region_qk (by kernel_rfl) (by kernel_rfl) fun k hk => ?_; simp -implicitDefEqProofs only [evr, id, seval, res_one, resRow, res_ro, tre_eql, evn])
    refine ⟨by omega, ?_⟩
    refine qcall (traceOfG Frm.nil ys.toArray[i]!) rfl (trcAg_ok _) ?_
    simp only [trcAg, evr, id, seval, res_one, List.append_nil, Int.toNat_zero, Nat.sub_self, Int.reduceToNat, resRow, res_ro, tre_eql]
    (refine hk _ ?_; clear hk k; try show Sat _ _ _ _ _)
    (repeat refine Sat.seq ?_)
    refine Sat.cond_b rfl (fun h2 => ?_) (fun h2 => ?_)
    · (repeat refine Sat.seq ?_)
      (refine Sat.region_k fun k hk => ?_; simp -implicitDefEqProofs only [evr, id, seval, res_one, resRow, res_ro, tre_eql, evn])
      refine ⟨by omega, fun b3 => ⟨⟨by unfold maxLen; omega, by omega⟩, fun a2 cap2 => ?_⟩⟩
      (refine hk _ ?_; clear hk k; try show Sat _ _ _ _ _)
      refine Sat.region_k fun k hk => ?_
      simp -implicitDefEqProofs only [evr, id, seval, res_one, resRow, res_ro, tre_eql, e2, evn]
      refine hk _ ?_
      simp only [thenK, blockK]
      have e3 : zs ++ [ys[i]] = (ys.take (i + 1)).filter (isTre t) := by
        rw [getB h1] at h2
        rw [hstep, ← hy, if_pos (by exact h2)]
      refine ⟨(i + 1, a2, cap2, zs ++ [ys[i]]), ⟨by simp only; omega, e3⟩, by simp only; omega, ?_⟩
      simp only [List.length_append, List.length_singleton]
      simp -implicitDefEqProofs only [evr, id, seval, res_one, resRow, res_ro, tre_eql, evl, evn]
      exact res_app (res_cs h1)
    · refine Sat.skip ?_
      simp only [thenK, blockK]
      refine Sat.region_k fun k hk => ?_
      simp -implicitDefEqProofs only [evr, id, seval, res_one, resRow, res_ro, tre_eql, e2, evn]
      refine hk _ ?_
      simp only [thenK, blockK]
      refine ⟨(i + 1, a, c, zs), ⟨by simp only; omega, ?_⟩, by simp only; omega, ?_⟩
      · rw [getB h1] at h2
        simp only
        rw [hstep, ← hy, if_neg (by intro hh; rw [show isTre t ys[i] = false from h2] at hh; cases hh), List.append_nil]
      · simp -implicitDefEqProofs only [evr, id, seval, res_one, resRow, res_ro, tre_eql, evl, evn]
  · have h1 : i = ys.length := by simp only [decide_eq_false_iff_not] at h; omega
    have hzs : zs = ys.filter (isTre t) := by rw [hy, h1, List.take_length]
    refine Sat.exit ?_
    simp only [thenK, blockK, reduceIte]
    (repeat refine Sat.seq ?_)
    (refine Sat.region_k fun k hk => ?_; simp -implicitDefEqProofs only [evr, id, seval, res_one, resRow, res_ro, tre_eql, evn]; refine hk _ ?_; clear hk k; try show Sat _ _ _ _ _)
    refine Sat.ret ?_
    simp only [Tryz.results29, evr, id, seval, res_one, List.append_nil, Int.toNat_zero, Nat.sub_self, Int.reduceToNat, resRow, res_ro, tre_eql, retN, retNK, newRow]
    exact ⟨⟨rfl, rfl, rfl⟩, a, c, ys, ho, hyl, by rw [hzs]⟩
end Go.Proofs.YtkpmihaaijiihaaGreat

/- Results of one trace, by the evaluator: dice.One. -/
set_option linter.unusedSimpArgs false
set_option linter.unusedVariables false
namespace Go.Proofs.YtkpmihaaijiihaaGreat
open Go.Sort Eng
structure OneOk (ys : List Res) : Prop where
  asc : Asc ys
  valid : ∀ r ∈ ys, validR r = true
  inr : ∀ r ∈ ys, RgR r
  one : oneT ys
  own : ∀ r ∈ ys, ∀ s ∈ ys, r.vantage = s.vantage → r.number = s.number → r = s
theorem OneOk.nil : OneOk [] := ⟨List.Pairwise.nil, fun r h => (by cases h), fun r h => (by cases h), fun r h => (by cases h), fun r h => (by cases h)⟩
theorem OneOk.of {xs ys : List Res} {n0 n1 : Nat} {t : Tre} (h : RltI xs n0 n1) (ho : OrdOf xs ys) : OneOk (ys.filter (isTre t)) := by
  have hm : ∀ r ∈ ys.filter (isTre t), r ∈ xs ∧ validR r = true ∧ r.tre = t := fun r hr => by
    obtain ⟨h1, h2⟩ := List.mem_filter.1 hr
    obtain ⟨h3, h4⟩ := (ho.2 r).1 h1
    exact ⟨h3, h4, by simpa [isTre] using h2⟩
  refine ⟨?_, fun r hr => (hm r hr).2.1, fun r hr => h.inr r (hm r hr).1, fun r hr s hs => (hm r hr).2.2.trans (hm s hs).2.2.symm, fun r hr s hs => h.own r (hm r hr).1 s (hm s hs).1⟩
  exact List.Pairwise.sublist List.filter_sublist ho.1
theorem OneOk.ord {ys : List Res} (h : OneOk ys) : OrdOf ys ys := .self h.asc h.valid
theorem OneOk.sub {ys zs : List Res} (h : OneOk ys) (hs : zs.Sublist ys) : OneOk zs :=
  ⟨List.Pairwise.sublist hs h.asc, fun r hr => h.valid r (hs.subset hr), fun r hr => h.inr r (hs.subset hr), fun r hr s hs' => h.one r (hs.subset hr) s (hs.subset hs'), fun r hr s hs' => h.own r (hs.subset hr) s (hs.subset hs')⟩
theorem sim_f : sim (.b false) .ff := ⟨rfl, fun _ _ _ => trivial⟩
set_option maxRecDepth 100000 in
theorem oneC0 (cb : Nat) (most : Nat) (hm : most ≤ 1000) :
    ContractN (Frm.codes cb) Tryz.prog 6 [ptr cb, .i .i64 most, .ff] (fun o => ∃ (a : Option Addr) (cap : Nat) (ys : List Res), OneOk ys ∧ ys.length ≤ most ∧ o = resRow a ys.length cap ys.toArray) := by
  refine contractN_of Tryz.func6 rfl (by kernel_rfl) ?_
  simp only [Tryz.ntmps6, argEnv, ptr]
  (repeat refine Sat.seq ?_)
  (refine Sat.region_k fun k hk => ?_; simp -implicitDefEqProofs only [evr, id, seval, ptr, res_one, resRow, treRow, tre_one, tre_ro, res_ro, evn]; refine hk _ ?_; clear hk k; try show Sat _ _ _ _ _)
  (repeat refine Sat.seq ?_)
  (refine Sat.region_k fun k hk => ?_; simp -implicitDefEqProofs only [evr, id, seval, ptr, res_one, resRow, treRow, tre_one, tre_ro, res_ro, evn])
  refine wcall_new (ContractN.of_sim (args := [ptr cb, .i .i64 most, .b false]) (resultsC cb most hm) ⟨sim_refl _, sim_refl _, sim_f, trivial⟩) rfl (by simp -implicitDefEqProofs only [evr, id, seval, ptr, res_one, resRow, treRow, tre_one, tre_ro, res_ro, evn]) ?_
  rintro ra ty len rc sz rrd ⟨a, c, xs, n0, n1, hI, hxl, e⟩
  simp only [resRow, Own.row.injEq] at e
  obtain ⟨rfl, rfl, rfl, rfl, rfl, rfl⟩ := e
  simp -implicitDefEqProofs only [evr, id, seval, ptr, res_one, resRow, treRow, tre_one, tre_ro, res_ro, evn]
  (refine hk _ ?_; clear hk k; try show Sat _ _ _ _ _)
  refine Sat.settle2 7 rfl rfl ?_
  simp -implicitDefEqProofs only [evr, id, seval, ptr, res_one, resRow, treRow, tre_one, tre_ro, res_ro, evn]
  (repeat refine Sat.seq ?_)
  (refine Sat.region_k fun k hk => ?_; simp -implicitDefEqProofs only [evr, id, seval, ptr, res_one, resRow, treRow, tre_one, tre_ro, res_ro, evn])
  refine wcall_new (tracesG (Frm.codes cb) ra rc xs (by omega)) rfl rfl ?_
  rintro ta ty len tc sz rrd ⟨a, c, ts, htl, e⟩
  simp only [treRow, Own.row.injEq] at e
  obtain ⟨rfl, rfl, rfl, rfl, rfl, rfl⟩ := e
  simp -implicitDefEqProofs only [evr, id, seval, ptr, res_one, resRow, treRow, tre_one, tre_ro, res_ro, evn]
  (refine hk _ ?_; clear hk k; try show Sat _ _ _ _ _)
  refine Sat.settle2 8 rfl rfl ?_
  simp -implicitDefEqProofs only [evr, id, seval, ptr, res_one, resRow, treRow, tre_one, tre_ro, res_ro, evn]
  (repeat refine Sat.seq ?_)
  (refine Sat.region_k fun k hk => ?_; simp -implicitDefEqProofs only [evr, id, seval, ptr, res_one, resRow, treRow, tre_one, tre_ro, res_ro, evn]; refine hk _ ?_; clear hk k; try show Sat _ _ _ _ _)
  (repeat refine Sat.seq ?_)
  refine Sat.cond_b rfl (fun h => ?_) (fun h => ?_)
  · (repeat refine Sat.seq ?_)
    (refine Sat.region_k fun k hk => ?_; simp -implicitDefEqProofs only [evr, id, seval, ptr, res_one, resRow, treRow, tre_one, tre_ro, res_ro, evn]; refine hk _ ?_; clear hk k; try show Sat _ _ _ _ _)
    refine Sat.adopt 6 54 17 (resRd #[]) rfl ?_
    refine Sat.ret ?_
    simp only [Tryz.results6, evr, id, seval, ptr, res_one, List.append_nil, Int.toNat_zero, Nat.sub_self, Int.reduceToNat, resRow, treRow, tre_one, tre_ro, res_ro, retN, retNK, newRow]
    exact ⟨⟨rfl, rfl, rfl⟩, none, 0, [], .nil, by simp, rfl⟩
  have ht0 : 0 < ts.length := by
    have : ¬ ((ts.length : Int) = 0) := by simpa using h
    omega
  refine Sat.skip ?_
  simp only [thenK]
  (repeat refine Sat.seq ?_)
  (refine Sat.region_k fun k hk => ?_; simp -implicitDefEqProofs only [evr, id, seval, ptr, res_one, resRow, treRow, tre_one, tre_ro, res_ro, evn])
  refine wcall_plain (nextC cb ts.length (by omega) (by omega)) (by simp -implicitDefEqProofs only [evr, id, seval, ptr, res_one, resRow, treRow, tre_one, tre_ro, res_ro, evn]) (by rintro _ ⟨x, rfl, _⟩; exact ok_plain rfl) ?_
  rintro r ⟨x, rfl, hx0, hx1⟩
  obtain ⟨i, rfl⟩ := Int.eq_ofNat_of_zero_le hx0
  have hi : i < ts.length := by omega
  simp -implicitDefEqProofs only [evr, id, seval, ptr, res_one, resRow, treRow, tre_one, tre_ro, res_ro, evn]
  refine ⟨by omega, ?_⟩
  refine wcall_new (ofG (Frm.codes cb) ra rc xs ts.toArray[i]! (by omega) hI.inr) rfl (by simp -implicitDefEqProofs only [evr, id, seval, ptr, res_one, resRow, treRow, tre_one, tre_ro, res_ro, evn]; rfl) ?_
  rintro ya ty len yc sz rrd ⟨a, c, ys, ho, hyl, e⟩
  simp only [resRow, Own.row.injEq] at e
  obtain ⟨rfl, rfl, rfl, rfl, rfl, rfl⟩ := e
  simp -implicitDefEqProofs only [evr, id, seval, ptr, res_one, resRow, treRow, tre_one, tre_ro, res_ro, evn]
  (refine hk _ ?_; clear hk k; try show Sat _ _ _ _ _)
  (repeat refine Sat.seq ?_)
  (refine Sat.region_k fun k hk => ?_; simp -implicitDefEqProofs only [evr, id, seval, ptr, res_one, resRow, treRow, tre_one, tre_ro, res_ro, evn]; refine hk _ ?_; clear hk k; try show Sat _ _ _ _ _)
  refine Sat.cond_tt rfl ?_
  (repeat refine Sat.seq ?_)
  (refine Sat.region_k fun k hk => ?_; simp -implicitDefEqProofs only [evr, id, seval, ptr, res_one, resRow, treRow, tre_one, tre_ro, res_ro, evn]; refine hk _ ?_; clear hk k; try show Sat _ _ _ _ _)
  refine Sat.ret ?_
  simp only [Tryz.results6, evr, id, seval, ptr, res_one, List.append_nil, Int.toNat_zero, Nat.sub_self, Int.reduceToNat, resRow, treRow, tre_one, tre_ro, res_ro, retN, retNK, newRow]
  exact ⟨⟨rfl, rfl, rfl⟩, ya, yc, _, .of hI ho, Nat.le_trans (List.length_filter_le _ _) (by omega), rfl⟩
theorem oneC (cb : Nat) (most : Nat) (hm : most ≤ 1000) :
    ContractN (Frm.codes cb) Tryz.prog 6 [ptr cb, .i .i64 most, .b false] (fun o => ∃ (a : Option Addr) (cap : Nat) (ys : List Res), OneOk ys ∧ ys.length ≤ most ∧ o = resRow a ys.length cap ys.toArray) :=
  ContractN.of_sim (oneC0 cb most hm) ⟨sim_refl _, sim_refl _, sim_f, trivial⟩
end Go.Proofs.YtkpmihaaijiihaaGreat

/- Results of one trace: parts of them, and whether they contradict. -/
set_option linter.unusedSimpArgs false
set_option linter.unusedVariables false
namespace Go.Proofs.YtkpmihaaijiihaaGreat
open Go.Sort Eng
def gOf (ys : List Res) : Nat → Res := fun i => ys.toArray[i]!
theorem part_get {ys : List Res} {a b i : Nat} (hb : b ≤ ys.length) (hi : i < b - a) : ((ys.take b).drop a).toArray[i]! = ys.toArray[a + i]! := by
  have h3 : i < ((ys.take b).drop a).length := by rw [List.length_drop, List.length_take]; omega
  rw [getB h3, getB (show a + i < ys.length by omega), List.getElem_drop, List.getElem_take]
theorem part_len {ys : List Res} {a b : Nat} (hb : b ≤ ys.length) : ((ys.take b).drop a).length = b - a := by rw [List.length_drop, List.length_take]; omega
theorem part_sub (ys : List Res) (a b : Nat) : ((ys.take b).drop a).Sublist ys := (List.drop_sublist _ _).trans (List.take_sublist _ _)
theorem Seg.congr2 {g g' : Nat → Res} {a b : Nat} (e : ∀ i, i < b → g i = g' i) : Seg g a b ↔ Seg g' a b := by
  have h : ∀ {g g' : Nat → Res}, (∀ i, i < b → g i = g' i) → Seg g a b → Seg g' a b := by
    intro g g' e h k h1 h2 ⟨i, h3, h4, h5⟩
    refine h k h1 h2 ⟨i, h3, h4, ?_⟩
    rw [e i (by omega), e k h2]
    exact h5
  exact ⟨h e, h fun i hi => (e i hi).symm⟩
theorem part_cons {ys : List Res} {a b : Nat} (hab : a ≤ b) (hb : b ≤ ys.length) : consR ((ys.take b).drop a) ↔ Seg (gOf ys) a b := by
  unfold consR
  rw [part_len hb]
  have h1 : Seg (fun i => ((ys.take b).drop a).toArray[i]!) 0 (b - a) ↔ Seg (fun j => gOf ys (a + j)) 0 (b - a) := Seg.congr2 fun i hi => part_get hb hi
  rw [h1, Seg.shift, show a + (b - a) = b by omega]
theorem cons_ord {ys zs : List Res} {v : Bool} (h : OneOk ys) (ho : OrdOf ys zs) (hv : v = true ↔ consR zs) : v = true ↔ Seg (gOf ys) 0 ys.length := by
  rw [ho.unique h.ord] at hv
  exact hv
theorem winC (F : Frm) {ys : List Res} (h : OneOk ys) (hl : ys.length ≤ 1000) {a b : Nat} (hab : a ≤ b) (hb : b ≤ ys.length) (ad : Option Addr) (cap : Nat) {m : Nat} {rd : Nat → Nat → SV} (hm : m = b - a) (hr : rdEq m 17 rd (fun i j => resRd ys.toArray (a + i) j)) :
    Contract F Tryz.prog 20 [.sl ad m cap 17 rd] (fun r => ∃ v, (v = true ↔ Seg (gOf ys) a b) ∧ r = .b v) := by
  subst hm
  have hs := h.sub (part_sub ys a b)
  have hlen := part_len (a := a) hb
  have hc := consistentC F ad cap ((ys.take b).drop a) (by omega) hs.inr
  rw [hlen] at hc
  refine (Contract.of_sim (args := [SV.sl ad (b - a) cap 17 rd]) hc ⟨sim_sl fun i j hi hj => ?_, trivial⟩).mono ?_
  · rw [hr i j hi hj]
    show (Res.cs ys.toArray[a + i]!).getD j default = (Res.cs ((ys.take b).drop a).toArray[i]!).getD j default
    rw [part_get hb hi]
  · rintro r ⟨zs, v, ho, hv, rfl⟩
    refine ⟨v, ?_, rfl⟩
    rw [ho.unique hs.ord] at hv
    exact hv.trans (part_cons hab hb)
theorem one_cut {ys : List Res} (h : OneOk ys) (hl : ys.length ≤ 512) {l : List (Nat × Nat)} {e : Int} (hc : CutRes ys l e) : e = 0 ∧ Cuts (gOf ys) ys.length l := by
  rcases hc with ⟨_, _, x, hx, hv⟩ | ⟨_, zs, ho, hc⟩
  · rw [h.valid x hx] at hv; cases hv
  · rw [ho.unique h.ord] at hc
    rcases hc with ⟨_, _, h5⟩ | ⟨_, _, _, h5⟩ | ⟨h5, _, _, h6⟩
    · omega
    · exact absurd h.one h5
    · exact ⟨h5, h6⟩
theorem slB_bytes1 (a : Option Addr) (cap : Nat) (z : List Int) (hz : ∀ n ∈ z, (Lit.int .u8 n).wf = true) : isBytes (slB a cap z) :=
  ⟨a, z.length, cap, _, rfl, fun i hi => ⟨z.getD i 0, by have := bounds_u8 (hz _ (getD_mem (d := 0) hi)); omega, by have := bounds_u8 (hz _ (getD_mem (d := 0) hi)); omega, rfl⟩⟩
end Go.Proofs.YtkpmihaaijiihaaGreat

/- Episodes: cuts, witnesses and errors are told apart by the results alone (no program in sight). -/
set_option linter.unusedSimpArgs false
set_option linter.unusedVariables false
namespace Go.Proofs.YtkpmihaaijiihaaGreat
open Eng
theorem contraR_symm (a b : Res) : contraR a b = contraR b a := by
  rw [Bool.eq_iff_iff, contraR_iff, contraR_iff]
  constructor <;> rintro ⟨h1, h2, h3, h4⟩ <;> exact ⟨h2, h1, h3.symm, fun e => h4 e.symm⟩
theorem contraR_irrefl (a : Res) : contraR a a = false := by
  cases h : contraR a a with
  | false => rfl
  | true => exact absurd rfl (contraR_iff.1 h).2.2.2
theorem contraR_valid {a b : Res} (h : contraR a b = true) : validR a = true ∧ validR b = true := by
  obtain ⟨h1, h2, _, _⟩ := contraR_iff.1 h
  simp [placedR, usableR] at h1 h2
  exact ⟨h1.2.2, h2.2.2⟩
theorem Pre.pos {g : Nat → Res} {l : List (Nat × Nat)} {a : Nat} (h : Pre g l a) (hl : l ≠ []) : ∃ l' b, Pre g l' b ∧ b < a ∧ Seg g b a ∧ Bad g b a ∧ l = l' ++ [(b, a)] := by
  cases h with
  | nil => exact absurd rfl hl
  | snoc h1 h2 h3 h4 => exact ⟨_, _, h1, h2, h3, h4, rfl⟩
theorem Pre.det {g : Nat → Res} {l : List (Nat × Nat)} {a : Nat} (h : Pre g l a) : ∀ {l' a'}, Pre g l' a' → l.length = l'.length → l = l' ∧ a = a' := by
  induction h with
  | nil =>
    intro l' a' h' e
    cases h' with
    | nil => exact ⟨rfl, rfl⟩
    | snoc => simp at e
  | @snoc l b k h1 h2 h3 h4 ih =>
    intro l' a' h' e
    cases h' with
    | nil => simp at e
    | @snoc m c _ g1 g2 g3 g4 =>
      obtain ⟨rfl, rfl⟩ := ih g1 (by simpa using e)
      have : k = a' := by
        rcases Nat.lt_trichotomy k a' with h5 | h5 | h5
        · exact absurd h4 (g3 k (by omega) h5)
        · exact h5
        · exact absurd g4 (h3 a' (by omega) h5)
      subst this
      exact ⟨rfl, rfl⟩
theorem Pre.at {g : Nat → Res} {l : List (Nat × Nat)} {a : Nat} (h : Pre g l a) : ∀ p, p < l.length → ∃ l' b k, Pre g l' b ∧ l'.length = p ∧ b < k ∧ k ≤ a ∧ Bad g b k := by
  induction h with
  | nil => intro p hp; simp at hp
  | @snoc l b k h1 h2 h3 h4 ih =>
    intro p hp
    by_cases e : p < l.length
    · obtain ⟨l', b', k', g1, g2, g3, g4, g5⟩ := ih p e
      exact ⟨l', b', k', g1, g2, g3, by omega, g5⟩
    · have : p = l.length := by simp at hp; omega
      exact ⟨l, b, k, h1, this.symm, h2, Nat.le_refl _, h4⟩
theorem Cuts.unique {g : Nat → Res} {n : Nat} {l l' : List (Nat × Nat)} (h : Cuts g n l) (h' : Cuts g n l') : l = l' := by
  have key : ∀ {m m' : List (Nat × Nat)} {a a' : Nat}, Pre g m a → Pre g m' a' → a < n → a' < n → Seg g a n → ¬ m.length < m'.length := by
    intro m m' a a' h1 h2 h3 h4 h5 hlt
    obtain ⟨m'', b, k, g1, g2, g3, g4, g5⟩ := h2.at _ hlt
    obtain ⟨_, rfl⟩ := h1.det g1 g2.symm
    exact h5 k (by omega) (by omega) g5
  rcases h with ⟨h1, rfl⟩ | ⟨m, a, h1, h2, h3, rfl⟩ <;> rcases h' with ⟨g1, rfl⟩ | ⟨m', a', g1, g2, g3, rfl⟩
  · rfl
  · omega
  · omega
  · have e : m.length = m'.length := by
      have := key h1 g1 h2 g2 h3
      have := key g1 h1 g2 h2 g3
      omega
    obtain ⟨rfl, rfl⟩ := h1.det g1 e
    rfl
theorem Cuts.zero (g : Nat → Res) : Cuts g 0 [] := .inl ⟨rfl, rfl⟩
theorem Cuts.len0 {g : Nat → Res} {n : Nat} {l : List (Nat × Nat)} (h : Cuts g n l) : l.length = 0 ↔ n = 0 := by
  rcases h with ⟨h1, rfl⟩ | ⟨m, a, _, h2, _, rfl⟩
  · simp [h1]
  · simp; omega
theorem Cuts.bound {g : Nat → Res} {n : Nat} {l : List (Nat × Nat)} (h : Cuts g n l) : l.length ≤ n := by
  rcases h with ⟨h1, rfl⟩ | ⟨m, a, h1, h2, _, rfl⟩
  · simp
  · have := h1.bound; simp; omega
theorem Cuts.last {g : Nat → Res} {n : Nat} {l : List (Nat × Nat)} (h : Cuts g n l) (hn : 0 < n) : ∃ m a, Pre g m a ∧ a < n ∧ Seg g a n ∧ l = m ++ [(a, n)] ∧ l.getD (l.length - 1) (0, 0) = (a, n) := by
  rcases h with ⟨h1, rfl⟩ | ⟨m, a, h1, h2, h3, rfl⟩
  · omega
  · exact ⟨m, a, h1, h2, h3, rfl, by simp [List.getD]⟩
theorem Cuts.more {g : Nat → Res} {n a : Nat} {m : List (Nat × Nat)} (h1 : Pre g m a) (h2 : a < n) (h3 : Seg g a n) (hn : ¬ Bad g a n) : Cuts g (n + 1) (m ++ [(a, n + 1)]) := .inr ⟨m, a, h1, by omega, h3.snoc hn, rfl⟩
theorem Cuts.new {g : Nat → Res} {n a : Nat} {m : List (Nat × Nat)} (h1 : Pre g m a) (h2 : a < n) (h3 : Seg g a n) (hn : Bad g a n) : Cuts g (n + 1) (m ++ [(a, n)] ++ [(n, n + 1)]) := .inr ⟨_, n, h1.snoc h2 h3 hn, by omega, Seg.one g n, rfl⟩
theorem Cuts.one (g : Nat → Res) : Cuts g 1 [(0, 1)] := .inr ⟨[], 0, .nil, by omega, Seg.one g 0, rfl⟩
theorem cutRes_eq {xs : List Res} {l l' : List (Nat × Nat)} {e e' : Int} (h : CutRes xs l e) (g : CutRes xs l' e') : l' = l ∧ e' = e := by
  have bad : ∀ {x : Res}, x ∈ xs → validR x = false → (∀ x ∈ xs, validR x = true) → False := fun hx h1 h2 => by rw [h2 _ hx] at h1; cases h1
  rcases h with ⟨rfl, rfl, x, hx, hv⟩ | ⟨hv, ys, ho, hc⟩ <;> rcases g with ⟨rfl, rfl, x', hx', hv'⟩ | ⟨hv', zs, ho', hc'⟩
  · exact ⟨rfl, rfl⟩
  · exact (bad hx hv hv').elim
  · exact (bad hx' hv' hv).elim
  · obtain rfl := ho.unique ho'
    rcases hc with ⟨rfl, rfl, h1⟩ | ⟨rfl, rfl, h1, h2⟩ | ⟨rfl, h1, h2, h3⟩ <;> rcases hc' with ⟨rfl, rfl, g1⟩ | ⟨rfl, rfl, g1, g2⟩ | ⟨rfl, g1, g2, g3⟩
    · exact ⟨rfl, rfl⟩
    · omega
    · omega
    · omega
    · exact ⟨rfl, rfl⟩
    · exact absurd g2 h2
    · omega
    · exact absurd h2 g2
    · exact ⟨(h3.unique g3).symm, rfl⟩
theorem clash_eq {g : Nat → Res} {n k k' : Nat} (h : ClashAt g n k) (h' : ClashAt g n k') : k = k' := by
  rcases Nat.lt_trichotomy k k' with h1 | h1 | h1
  · exact absurd (h.2.2 (by have := h'.1; omega)) (h'.2.1 k (Nat.zero_le _) h1)
  · exact h1
  · exact absurd (h'.2.2 (by have := h.1; omega)) (h.2.1 k' (Nat.zero_le _) h1)
theorem witPost_eq {ys : List Res} {f f' : Nat → SV} (h : WitPost ys f) (h' : WitPost ys f') : f' 0 = f 0 ∧ f' 1 = f 1 ∧ f' 2 = f 2 := by
  have bad : ∀ {i k : Nat}, WitAt ys i k → ¬ Seg (fun i => ys.toArray[i]!) 0 ys.length := fun hw hs => hs _ (Nat.zero_le _) hw.2.1 (hw.2.2.1.2.2 hw.2.1)
  rcases h with ⟨h0, h1, h2, h3⟩ | ⟨i, k, hw, h1, h2, h3⟩ <;> rcases h' with ⟨g0, g1, g2, g3⟩ | ⟨i', k', gw, g1, g2, g3⟩
  · rw [h1, h2, h3, g1, g2, g3]; exact ⟨rfl, rfl, rfl⟩
  · exact absurd h0 (bad gw)
  · exact absurd g0 (bad hw)
  · obtain rfl := clash_eq hw.2.2.1 gw.2.2.1
    have e : i = i' := by
      rcases Nat.lt_trichotomy i i' with h5 | h5 | h5
      · have := gw.2.2.2.2 i h5; rw [hw.2.2.2.1] at this; cases this
      · exact h5
      · have := hw.2.2.2.2 i' h5; rw [gw.2.2.2.1] at this; cases this
    subst e
    rw [h1, h2, h3, g1, g2, g3]; exact ⟨rfl, rfl, rfl⟩
theorem consR_pairs {xs ys : List Res} (h : OrdOf xs ys) : consR ys ↔ ∀ a ∈ xs, ∀ b ∈ xs, contraR a b = false := by
  constructor
  · intro hc a ha b hb
    cases hab : contraR a b with
    | false => rfl
    | true =>
      exfalso
      obtain ⟨va, vb⟩ := contraR_valid hab
      obtain ⟨i, hi, ei⟩ := List.mem_iff_getElem.1 ((h.2 a).2 ⟨ha, va⟩)
      obtain ⟨k, hk, ek⟩ := List.mem_iff_getElem.1 ((h.2 b).2 ⟨hb, vb⟩)
      have gi := getB hi
      have gk := getB hk
      rw [ei] at gi
      rw [ek] at gk
      have hp := Seg.pairs.1 hc
      rcases Nat.lt_trichotomy i k with h1 | h1 | h1
      · have := hp i k (Nat.zero_le _) h1 hk
        rw [gi, gk, hab] at this; cases this
      · subst h1
        rw [← ei, ek, contraR_irrefl] at hab
        cases hab
      · have := hp k i (Nat.zero_le _) h1 hi
        rw [gi, gk, contraR_symm, hab] at this; cases this
  · intro hc
    refine Seg.pairs.2 fun i k _ h1 h2 => ?_
    rw [getB (show i < ys.length by omega), getB h2]
    exact hc _ ((h.2 _).1 (List.getElem_mem _)).1 _ ((h.2 _).1 (List.getElem_mem _)).1
end Go.Proofs.YtkpmihaaijiihaaGreat

/- The reference of episodes, by the evaluator: Contradict, Consistent, Witness. -/
set_option linter.unusedSimpArgs false
set_option linter.unusedVariables false
namespace Go.Proofs.YtkpmihaaijiihaaGreat
open Go.Sort Eng
theorem getB_mem {xs : List Res} {i : Nat} (h : i < xs.length) : xs.toArray[i]! ∈ xs := by rw [getB h]; exact List.getElem_mem h
set_option maxRecDepth 100000 in
theorem usableG (F : Frm) (x : Res) : Contract F Tryz.prog 47 [resAg x] (fun r => r = .b (usableR x)) := by
  refine contract_of Tryz.func47 rfl (by kernel_rfl) ?_
  simp only [Tryz.ntmps47, argEnv, resAg, Res.cs]
  (repeat refine Sat.seq ?_)
  (refine Sat.region_k fun k hk => ?_; simp -implicitDefEqProofs only [evr, id, seval, res_one, res_ro, tre_eql, resRow, evn])
  intro blk1
  (refine hk _ ?_; clear hk k; try show Sat _ _ _ _ _)
  (repeat refine Sat.seq ?_)
  refine Sat.at ⟨10, [(2, .b (usableR x))], []⟩ ?_ ?_
  · (refine Sat.region_k fun k hk => ?_; simp -implicitDefEqProofs only [evr, id, seval, res_one, res_ro, tre_eql, resRow, evn])
    refine wcall_plain (validG F x) rfl (by rintro _ rfl; exact ok_plain rfl) ?_
    rintro r rfl
    simp -implicitDefEqProofs only [evr, id, seval, res_one, res_ro, tre_eql, resRow, evn]
    refine ⟨fun h1 => hk _ ?_, fun h1 => hk _ ?_⟩
    · have e : usableR x = !x.doubled := by simp only [usableR, h1, Bool.and_true]
      simp only [thenK, e]
      simp -implicitDefEqProofs only [evr, id, seval, res_one, res_ro, tre_eql, resRow, evl, evn]
    · have e : usableR x = false := by simp only [usableR, h1, Bool.and_false]
      simp only [thenK, e]
      simp -implicitDefEqProofs only [evr, id, seval, res_one, res_ro, tre_eql, resRow, evl, evn]
  simp only [thenK, blockK]
  refine Sat.ret ?_
  simp only [Tryz.results47, evr, id, seval, res_one, res_ro, List.append_nil, Int.toNat_zero, Nat.sub_self, Int.reduceToNat, tre_eql, resRow]
theorem contra_parts (x y : Res) : contraR x y = (usableR x && (usableR y && (x.answered && (y.answered && (decide ((⟨x.vantage, x.dst, x.proto⟩ : Tre) = ⟨y.vantage, y.dst, y.proto⟩) && ((x.flow == y.flow) && ((x.ttl == y.ttl) && (x.from_ != y.from_)))))))) := by
  rw [Bool.eq_iff_iff, contraR_iff]
  simp only [placedR, Res.spot, Bool.and_eq_true, decide_eq_true_eq, beq_iff_eq, bne_iff_ne, Tre.mk.injEq, List.cons.injEq, and_true]
  constructor
  · rintro ⟨⟨h1, h2⟩, ⟨h3, h4⟩, ⟨h5, h6, h7, h8, h9⟩, h10⟩
    exact ⟨h2, h4, h1, h3, ⟨h5, h6, h7⟩, h8, h9, h10⟩
  · rintro ⟨h2, h4, h1, h3, ⟨h5, h6, h7⟩, h8, h9, h10⟩
    exact ⟨⟨h1, h2⟩, ⟨h3, h4⟩, ⟨h5, h6, h7, h8, h9⟩, h10⟩
set_option maxHeartbeats 1000000 in
set_option maxRecDepth 100000 in
theorem contradictG (F : Frm) (x y : Res) : Contract F Tryz.prog 26 [resAg x, resAg y] (fun r => r = .b (contraR x y)) := by
  refine contract_of Tryz.func26 rfl (by kernel_rfl) ?_
  simp only [Tryz.ntmps26, argEnv, resAg, Res.cs]
  have e0 := contra_parts x y
  (repeat refine Sat.seq ?_)
  (refine Sat.region_k fun k hk => ?_; simp -implicitDefEqProofs only [evr, id, seval, res_one, res_ro, tre_eql, resRow, evn])
  intro blk1 blk2
  (refine hk _ ?_; clear hk k; try show Sat _ _ _ _ _)
  (repeat refine Sat.seq ?_)
  refine Sat.at ⟨49, [(4, .b (contraR x y))], []⟩ ?_ ?_
  · (refine Sat.region_qk (by kernel_rfl) (by kernel_rfl) fun k hk => ?_; simp -implicitDefEqProofs only [evr, id, seval, res_one, res_ro, tre_eql, resRow, evn])
    refine qcall (usableG Frm.nil x) rfl (ok_plain rfl) ?_
    simp -implicitDefEqProofs only [evr, id, seval, res_one, res_ro, tre_eql, resRow, evn]
    refine ⟨fun h1 => ?_, fun h1 => hk _ ?_⟩
    · refine qcall (usableG Frm.nil y) rfl (ok_plain rfl) ?_
      simp -implicitDefEqProofs only [evr, id, seval, res_one, res_ro, tre_eql, resRow, evn]
      refine ⟨fun h2 => ⟨fun h3 => ⟨fun h4 => ?_, fun h4 => hk _ ?_⟩, fun h3 => hk _ ?_⟩, fun h2 => hk _ ?_⟩
      · refine qcall (traceOfG Frm.nil x) rfl (trcAg_ok _) ?_
        simp -implicitDefEqProofs only [evr, id, seval, res_one, res_ro, tre_eql, resRow, evn]
        refine qcall (traceOfG Frm.nil y) rfl (trcAg_ok _) ?_
        simp only [trcAg, evr, id, seval, res_one, res_ro, List.append_nil, Int.toNat_zero, Nat.sub_self, Int.reduceToNat, tre_eql, resRow]
        refine ⟨fun h5 => ⟨fun h6 => ⟨fun h7 => hk _ ?_, fun h7 => hk _ ?_⟩, fun h6 => hk _ ?_⟩, fun h5 => hk _ ?_⟩
        · have e : contraR x y = (x.from_ != y.from_) := by rw [e0, h1, h2, h3, h4, decide_eq_true h5, h6, h7]; rfl
          simp only [thenK, e]
          simp -implicitDefEqProofs only [evr, id, seval, res_one, res_ro, tre_eql, resRow, evl, evn]
        · have e : contraR x y = false := by rw [e0, h1, h2, h3, h4, decide_eq_true h5, h6, h7]; rfl
          simp only [thenK, e]
          simp -implicitDefEqProofs only [evr, id, seval, res_one, res_ro, tre_eql, resRow, evl, evn]
        · have e : contraR x y = false := by rw [e0, h1, h2, h3, h4, decide_eq_true h5, h6]; rfl
          simp only [thenK, e]
          simp -implicitDefEqProofs only [evr, id, seval, res_one, res_ro, tre_eql, resRow, evl, evn]
        · have e : contraR x y = false := by rw [e0, h1, h2, h3, h4, decide_eq_false h5]; rfl
          simp only [thenK, e]
          simp -implicitDefEqProofs only [evr, id, seval, res_one, res_ro, tre_eql, resRow, evl, evn]
      · have e : contraR x y = false := by rw [e0, h1, h2, h3, h4]; rfl
        simp only [thenK, e]
        simp -implicitDefEqProofs only [evr, id, seval, res_one, res_ro, tre_eql, resRow, evl, evn]
      · have e : contraR x y = false := by rw [e0, h1, h2, h3]; rfl
        simp only [thenK, e]
        simp -implicitDefEqProofs only [evr, id, seval, res_one, res_ro, tre_eql, resRow, evl, evn]
      · have e : contraR x y = false := by rw [e0, h1, h2]; rfl
        simp only [thenK, e]
        simp -implicitDefEqProofs only [evr, id, seval, res_one, res_ro, tre_eql, resRow, evl, evn]
    · have e : contraR x y = false := by rw [e0, h1]; rfl
      simp only [thenK, e]
      simp -implicitDefEqProofs only [evr, id, seval, res_one, res_ro, tre_eql, resRow, evl, evn]
  simp only [thenK, blockK]
  refine Sat.ret ?_
  simp only [Tryz.results26, evr, id, seval, res_one, res_ro, List.append_nil, Int.toNat_zero, Nat.sub_self, Int.reduceToNat, tre_eql, resRow]
set_option maxRecDepth 100000 in
theorem consistentG (F : Frm) (ad : Option Addr) (cap : Nat) (xs : List Res) (hl : xs.length ≤ 1000000000) :
    Contract F Tryz.prog 21 [.sl ad xs.length cap 17 (resRd xs.toArray)] (fun r => ∃ b, (b = true ↔ ∀ a ∈ xs, ∀ c ∈ xs, contraR a c = false) ∧ r = .b b) := by
  refine contract_of Tryz.func21 rfl (by kernel_rfl) ?_
  simp only [Tryz.ntmps21, argEnv]
  (repeat refine Sat.seq ?_)
  (refine Sat.region_k fun k hk => ?_; simp -implicitDefEqProofs only [evr, id, seval, res_one, res_ro, tre_eql, resRow, evn]; refine hk _ ?_; clear hk k; try show Sat _ _ _ _ _)
  (repeat refine Sat.seq ?_)
  (refine Sat.region_k fun k hk => ?_; simp -implicitDefEqProofs only [evr, id, seval, res_one, res_ro, tre_eql, resRow, evn]; refine hk _ ?_; clear hk k; try show Sat _ _ _ _ _)
  (repeat refine Sat.seq ?_)
  refine Sat.block ?_
  refine Sat.loop (ι := Nat) (fun i => ⟨25, [(3, .i .i64 i), (0, .sl ad xs.length cap 17 (resRd xs.toArray))], []⟩)
    (fun i => i ≤ xs.length ∧ ∀ j k, j < k → k < i → contraR xs.toArray[j]! xs.toArray[k]! = false) (fun i => xs.length - i) 0 ⟨Nat.zero_le _, fun j k h1 h2 => absurd h2 (Nat.not_lt_zero _)⟩ (by simp -implicitDefEqProofs only [evr, id, seval, res_one, res_ro, tre_eql, resRow, evl, evn]; try rfl) ?_
  rintro i ⟨hi, hno⟩
  (repeat refine Sat.seq ?_)
  (refine Sat.region_k fun k hk => ?_; simp -implicitDefEqProofs only [evr, id, seval, res_one, res_ro, tre_eql, resRow, evn]; refine hk _ ?_; clear hk k; try show Sat _ _ _ _ _)
  (repeat refine Sat.seq ?_)
  refine Sat.cond_b rfl (fun h => ?_) (fun h => ?_)
  · have h1 : i < xs.length := by simp only [decide_eq_true_eq] at h; omega
    have e2 : IntKind.i64.wrap ((i : Int) + 1) = ((i + 1 : Nat) : Int) := by rw [w64 (by omega)]; omega
    refine Sat.skip ?_
    simp only [thenK]
    (repeat refine Sat.seq ?_)
    refine Sat.block ?_
    (repeat refine Sat.seq ?_)
    (refine Sat.region_k fun k hk => ?_; simp -implicitDefEqProofs only [evr, id, seval, res_one, res_ro, tre_eql, resRow, evn]; refine hk _ ?_; clear hk k; try show Sat _ _ _ _ _)
    refine Sat.block ?_
    refine Sat.loop (ι := Nat) (fun k => ⟨25, [(4, .i .i64 k), (3, .i .i64 i), (0, .sl ad xs.length cap 17 (resRd xs.toArray))], []⟩)
      (fun k => k ≤ i ∧ ∀ j, j < k → contraR xs.toArray[j]! xs.toArray[i]! = false) (fun k => i - k) 0 ⟨Nat.zero_le _, fun j h => absurd h (Nat.not_lt_zero _)⟩ (by simp -implicitDefEqProofs only [evr, id, seval, res_one, res_ro, tre_eql, resRow, evl, evn]; try rfl) ?_
    rintro k ⟨hk1, hno2⟩
    (repeat refine Sat.seq ?_)
    (refine Sat.region_k fun k hk => ?_; simp -implicitDefEqProofs only [evr, id, seval, res_one, res_ro, tre_eql, resRow, evn]; refine hk _ ?_; clear hk k; try show Sat _ _ _ _ _)
    (repeat refine Sat.seq ?_)
    refine Sat.cond_b rfl (fun h => ?_) (fun h => ?_)
    · have h2 : k < i := by simp only [decide_eq_true_eq] at h; omega
      have e3 : IntKind.i64.wrap ((k : Int) + 1) = ((k + 1 : Nat) : Int) := by rw [w64 (by omega)]; omega
      refine Sat.skip ?_
      simp only [thenK]
      (repeat refine Sat.seq ?_)
      refine Sat.block ?_
      (repeat refine Sat.seq ?_)
      refine Sat.region_qk (by kernel_rfl) (by kernel_rfl) fun k2 hk => ?_
      simp -implicitDefEqProofs only [evr, id, seval, res_one, res_ro, tre_eql, resRow, evn]
      refine ⟨by omega, by omega, ?_⟩
      refine qcall (contradictG Frm.nil xs.toArray[k]! xs.toArray[i]!) rfl (ok_plain rfl) ?_
      simp -implicitDefEqProofs only [evr, id, seval, res_one, res_ro, tre_eql, resRow, evn]
      refine hk _ ?_
      clear hk k2
      try show Sat _ _ _ _ _
      refine Sat.cond_b rfl (fun h3 => ?_) (fun h3 => ?_)
      · (repeat refine Sat.seq ?_)
        (refine Sat.region_k fun k hk => ?_; simp -implicitDefEqProofs only [evr, id, seval, res_one, res_ro, tre_eql, resRow, evn]; refine hk _ ?_; clear hk k; try show Sat _ _ _ _ _)
        refine Sat.ret ?_
        simp only [thenK, blockK, Tryz.results21, evr, id, seval, res_one, res_ro, List.append_nil, Int.toNat_zero, Nat.sub_self, Int.reduceToNat, tre_eql, resRow]
        refine ⟨false, ⟨fun h => (by cases h), fun h => ?_⟩, rfl⟩
        rw [h _ (getB_mem (show k < xs.length by omega)) _ (getB_mem h1)] at h3
        cases h3
      · refine Sat.skip ?_
        simp only [thenK, blockK, reduceIte]
        (repeat refine Sat.seq ?_)
        refine Sat.region_k fun k2 hk => ?_
        simp -implicitDefEqProofs only [evr, id, seval, res_one, res_ro, tre_eql, resRow, e3, evn]
        refine hk _ ?_
        simp only [thenK, blockK]
        refine ⟨k + 1, ⟨by omega, fun j hj => ?_⟩, by omega, ?_⟩
        · rcases (show j < k ∨ j = k by omega) with h4 | rfl
          · exact hno2 j h4
          · exact h3
        · simp -implicitDefEqProofs only [evr, id, seval, res_one, res_ro, tre_eql, resRow, evl, evn]
    · have h2 : k = i := by simp only [decide_eq_false_iff_not] at h; omega
      subst h2
      refine Sat.exit ?_
      simp only [thenK, blockK, reduceIte]
      (repeat refine Sat.seq ?_)
      refine Sat.region_k fun k2 hk => ?_
      simp -implicitDefEqProofs only [evr, id, seval, res_one, res_ro, tre_eql, resRow, e2, evn]
      refine hk _ ?_
      simp only [thenK, blockK]
      refine ⟨k + 1, ⟨by omega, fun j q h4 h5 => ?_⟩, by omega, ?_⟩
      · rcases (show q < k ∨ q = k by omega) with h6 | rfl
        · exact hno j q h4 h6
        · exact hno2 j h4
      · simp -implicitDefEqProofs only [evr, id, seval, res_one, res_ro, tre_eql, resRow, evl, evn]
  · have h1 : i = xs.length := by simp only [decide_eq_false_iff_not] at h; omega
    refine Sat.exit ?_
    simp only [thenK, blockK, reduceIte]
    (repeat refine Sat.seq ?_)
    (refine Sat.region_k fun k hk => ?_; simp -implicitDefEqProofs only [evr, id, seval, res_one, res_ro, tre_eql, resRow, evn]; refine hk _ ?_; clear hk k; try show Sat _ _ _ _ _)
    refine Sat.ret ?_
    simp only [Tryz.results21, evr, id, seval, res_one, res_ro, List.append_nil, Int.toNat_zero, Nat.sub_self, Int.reduceToNat, tre_eql, resRow]
    refine ⟨true, ⟨fun _ a ha c hc => ?_, fun _ => rfl⟩, rfl⟩
    obtain ⟨j, hj, rfl⟩ := List.mem_iff_getElem.1 ha
    obtain ⟨q, hq, rfl⟩ := List.mem_iff_getElem.1 hc
    rw [← getB hj, ← getB hq]
    rcases Nat.lt_trichotomy j q with h4 | h4 | h4
    · exact hno j q h4 (by omega)
    · subst h4; exact contraR_irrefl _
    · rw [contraR_symm]; exact hno q j h4 (by omega)
set_option maxRecDepth 100000 in
theorem witnessG (F : Frm) (ad : Option Addr) (cap : Nat) (xs : List Res) (hl : xs.length ≤ 1000000000) (hin : ∀ r ∈ xs, RgR r) :
    Contract F Tryz.prog 17 [.sl ad xs.length cap 17 (resRd xs.toArray)] (fun r => ∃ ys f, OrdOf xs ys ∧ WitPost ys f ∧ r = tupL [f 0, f 1, f 2]) := by
  refine contract_of Tryz.func17 rfl (by kernel_rfl) ?_
  simp only [Tryz.ntmps17, argEnv]
  (repeat refine Sat.seq ?_)
  (refine Sat.region_k fun k hk => ?_; simp -implicitDefEqProofs only [evr, id, seval, res_one, res_ro, tre_eql, resRow, evn])
  intro b1 b2
  (refine hk _ ?_; clear hk k; try show Sat _ _ _ _ _)
  (repeat refine Sat.seq ?_)
  (refine Sat.region_k fun k hk => ?_; simp -implicitDefEqProofs only [evr, id, seval, res_one, res_ro, tre_eql, resRow, evn])
  refine wcall_new (orderG F ad cap xs hl hin) rfl rfl ?_
  rintro ra ty len rc sz rrd ⟨a, c, ys, ho, hyl, e⟩
  simp only [resRow, Own.row.injEq] at e
  obtain ⟨rfl, rfl, rfl, rfl, rfl, rfl⟩ := e
  simp -implicitDefEqProofs only [evr, id, seval, res_one, res_ro, tre_eql, resRow, evn]
  (refine hk _ ?_; clear hk k; try show Sat _ _ _ _ _)
  refine Sat.settle2 5 rfl rfl ?_
  simp -implicitDefEqProofs only [evr, id, seval, res_one, res_ro, tre_eql, resRow, evn]
  (repeat refine Sat.seq ?_)
  (refine Sat.region_k fun k hk => ?_; simp -implicitDefEqProofs only [evr, id, seval, res_one, res_ro, tre_eql, resRow, evn]; refine hk _ ?_; clear hk k; try show Sat _ _ _ _ _)
  (repeat refine Sat.seq ?_)
  refine Sat.block ?_
  refine Sat.loop (ι := Nat) (fun i => ⟨42, [(6, .i .i64 i), (5, .sl ra ys.length rc 17 (resRd ys.toArray)), (3, .op 1 b2 0), (2, .op 0 b1 0), (4, .ff)], [.box b1 41 [.i .i64 0, .i .i64 0, .i .i64 0], .box b2 41 [.i .i64 0, .i .i64 0, .i .i64 0]]⟩)
    (fun i => i ≤ ys.length ∧ Seg (fun i => ys.toArray[i]!) 0 i) (fun i => ys.length - i) 0 ⟨Nat.zero_le _, Seg.nil _ _⟩ (by simp -implicitDefEqProofs only [evr, id, seval, res_one, res_ro, tre_eql, resRow, evl, evn]; try rfl) ?_
  rintro i ⟨hi, hseg⟩
  (repeat refine Sat.seq ?_)
  (refine Sat.region_k fun k hk => ?_; simp -implicitDefEqProofs only [evr, id, seval, res_one, res_ro, tre_eql, resRow, evn]; refine hk _ ?_; clear hk k; try show Sat _ _ _ _ _)
  (repeat refine Sat.seq ?_)
  refine Sat.cond_b rfl (fun h => ?_) (fun h => ?_)
  · have h1 : i < ys.length := by simp only [decide_eq_true_eq] at h; omega
    have e2 : IntKind.i64.wrap ((i : Int) + 1) = ((i + 1 : Nat) : Int) := by rw [w64 (by omega)]; omega
    refine Sat.skip ?_
    simp only [thenK]
    (repeat refine Sat.seq ?_)
    refine Sat.block ?_
    (repeat refine Sat.seq ?_)
    (refine Sat.region_k fun k hk => ?_; simp -implicitDefEqProofs only [evr, id, seval, res_one, res_ro, tre_eql, resRow, evn]; refine hk _ ?_; clear hk k; try show Sat _ _ _ _ _)
    refine Sat.block ?_
    refine Sat.loop (ι := Nat) (fun q => ⟨42, [(7, .i .i64 q), (6, .i .i64 i), (5, .sl ra ys.length rc 17 (resRd ys.toArray)), (3, .op 1 b2 0), (2, .op 0 b1 0), (4, .ff)], [.box b1 41 [.i .i64 0, .i .i64 0, .i .i64 0], .box b2 41 [.i .i64 0, .i .i64 0, .i .i64 0]]⟩)
      (fun q => q ≤ i ∧ ∀ j, j < q → contraR ys.toArray[j]! ys.toArray[i]! = false) (fun q => i - q) 0 ⟨Nat.zero_le _, fun j h => absurd h (Nat.not_lt_zero _)⟩ (by simp -implicitDefEqProofs only [evr, id, seval, res_one, res_ro, tre_eql, resRow, evl, evn]; try rfl) ?_
    rintro q ⟨hk1, hno2⟩
    (repeat refine Sat.seq ?_)
    (refine Sat.region_k fun k hk => ?_; simp -implicitDefEqProofs only [evr, id, seval, res_one, res_ro, tre_eql, resRow, evn]; refine hk _ ?_; clear hk k; try show Sat _ _ _ _ _)
    (repeat refine Sat.seq ?_)
    refine Sat.cond_b rfl (fun h => ?_) (fun h => ?_)
    · have h2 : q < i := by simp only [decide_eq_true_eq] at h; omega
      have e3 : IntKind.i64.wrap ((q : Int) + 1) = ((q + 1 : Nat) : Int) := by rw [w64 (by omega)]; omega
      refine Sat.skip ?_
      simp only [thenK]
      (repeat refine Sat.seq ?_)
      refine Sat.block ?_
      (repeat refine Sat.seq ?_)
      refine Sat.region_qk (by kernel_rfl) (by kernel_rfl) fun k2 hk => ?_
      simp -implicitDefEqProofs only [evr, id, seval, res_one, res_ro, tre_eql, resRow, evn]
      refine ⟨by omega, by omega, ?_⟩
      refine qcall (contradictG Frm.nil ys.toArray[q]! ys.toArray[i]!) rfl (ok_plain rfl) ?_
      simp -implicitDefEqProofs only [evr, id, seval, res_one, res_ro, tre_eql, resRow, evn]
      refine hk _ ?_
      clear hk k2
      try show Sat _ _ _ _ _
      refine Sat.cond_b rfl (fun h3 => ?_) (fun h3 => ?_)
      · (repeat refine Sat.seq ?_)
        (refine Sat.region_tree (.keep [0, 1, 2, 5, 6, 7, 3, 8] [4] (.one 4 (.one 9 (.one 10 (.one 11 (.one 12 .done)))))) (by kernel_rfl) (by kernel_rfl) (fun _ _ h => h) fun k hk => ?_; simp only [WOT, List.map_cons, List.map_nil, List.getD_cons_zero, List.getD_cons_succ]; simp -implicitDefEqProofs only [evr, id, seval, res_one, res_ro, tre_eql, resRow, WOT, evn])
        repeat' (first
          | (refine wcall_plain (identG F ys.toArray[q]!) rfl (by rintro _ rfl; exact idAg_ok _) ?_; rintro r rfl; simp only [idAg, evr, id, seval, res_one, res_ro, List.append_nil, Int.toNat_zero, Nat.sub_self, Int.reduceToNat, tre_eql, resRow])
          | (refine wcall_plain (identG F ys.toArray[i]!) rfl (by rintro _ rfl; exact idAg_ok _) ?_; rintro r rfl; simp only [idAg, evr, id, seval, res_one, res_ro, List.append_nil, Int.toNat_zero, Nat.sub_self, Int.reduceToNat, tre_eql, resRow])
          | omega
          | (with_reducible refine And.intro ?_ ?_))
        all_goals
          refine hk _ ?_
          clear hk
          simp only [thenK]
          refine Sat.ret ?_
          simp only [thenK, blockK, Tryz.results17, evr, id, seval, res_one, res_ro, List.append_nil, Int.toNat_zero, Nat.sub_self, Int.reduceToNat, tre_eql, resRow]
          exact ⟨ys, fun j => [idAg ys.toArray[q]!, idAg ys.toArray[i]!, .b true].getD j default, ho, .inr ⟨q, i, ⟨h2, h1, ⟨hi, hseg, fun _ => ⟨q, Nat.zero_le _, h2, h3⟩⟩, h3, hno2⟩, rfl, rfl, rfl⟩, rfl⟩
      · refine Sat.skip ?_
        simp only [thenK, blockK, reduceIte]
        (repeat refine Sat.seq ?_)
        refine Sat.region_k fun k2 hk => ?_
        simp -implicitDefEqProofs only [evr, id, seval, res_one, res_ro, tre_eql, resRow, e3, evn]
        refine hk _ ?_
        simp only [thenK, blockK]
        refine ⟨q + 1, ⟨by omega, fun j hj => ?_⟩, by omega, ?_⟩
        · rcases (show j < q ∨ j = q by omega) with h4 | rfl
          · exact hno2 j h4
          · exact h3
        · simp -implicitDefEqProofs only [evr, id, seval, res_one, res_ro, tre_eql, resRow, evl, evn]
    · have h2 : q = i := by simp only [decide_eq_false_iff_not] at h; omega
      subst h2
      refine Sat.exit ?_
      simp only [thenK, blockK, reduceIte]
      (repeat refine Sat.seq ?_)
      refine Sat.region_k fun k2 hk => ?_
      simp -implicitDefEqProofs only [evr, id, seval, res_one, res_ro, tre_eql, resRow, e2, evn]
      refine hk _ ?_
      simp only [thenK, blockK]
      refine ⟨q + 1, ⟨by omega, hseg.snoc ?_⟩, by omega, ?_⟩
      · rintro ⟨j, _, h4, h5⟩
        rw [hno2 j h4] at h5
        cases h5
      · simp -implicitDefEqProofs only [evr, id, seval, res_one, res_ro, tre_eql, resRow, evl, evn]
  · have h1 : i = ys.length := by simp only [decide_eq_false_iff_not] at h; omega
    subst h1
    refine Sat.exit ?_
    simp only [thenK, blockK, reduceIte]
    (repeat refine Sat.seq ?_)
    (refine Sat.region_k fun k hk => ?_; simp -implicitDefEqProofs only [evr, id, seval, res_one, res_ro, tre_eql, resRow, evn])
    (refine hk _ ?_; clear hk k; try show Sat _ _ _ _ _)
    refine Sat.ret ?_
    simp only [Tryz.results17, evr, id, seval, res_one, res_ro, List.append_nil, Int.toNat_zero, Nat.sub_self, Int.reduceToNat, tre_eql, resRow]
    exact ⟨ys, fun j => [idL 0 0 0, idL 0 0 0, .b false].getD j default, ho, .inl ⟨hseg, rfl, rfl, rfl⟩, rfl⟩
end Go.Proofs.YtkpmihaaijiihaaGreat

/- The reference of episodes, by the evaluator: Check, Cut, Part, Latest, Fewest, Same; and episode.Latest. -/
set_option linter.unusedSimpArgs false
set_option linter.unusedVariables false
namespace Go.Proofs.YtkpmihaaijiihaaGreat
open Go.Sort Eng
theorem ep_0 (l : List (Nat × Nat)) (i : Nat) : epRd l i 0 = .i .i64 ((l.getD i (0, 0)).1 : Nat) := rfl
theorem ep_1 (l : List (Nat × Nat)) (i : Nat) : epRd l i 1 = .i .i64 ((l.getD i (0, 0)).2 : Nat) := rfl
def ChkRes (xs : List Res) (e : Int) : Prop :=
  (e = 1 ∧ ∃ x ∈ xs, validR x = false) ∨ ((∀ x ∈ xs, validR x = true) ∧ ∃ ys, OrdOf xs ys ∧ ((e = 5 ∧ 512 < ys.length) ∨ (e = 35 ∧ ys.length ≤ 512 ∧ ¬ oneT ys) ∨ (e = 0 ∧ ys.length ≤ 512 ∧ oneT ys)))
set_option maxRecDepth 100000 in
theorem checkAllG (F : Frm) (ad : Option Addr) (cap : Nat) (xs : List Res) (hl : xs.length ≤ 1000000000) (hin : ∀ r ∈ xs, RgR r) :
    Contract F Tryz.prog 41 [.sl ad xs.length cap 17 (resRd xs.toArray)] (fun r => ∃ e, ChkRes xs e ∧ r = .i .i64 e) := by
  refine contract_of Tryz.func41 rfl (by kernel_rfl) ?_
  simp only [Tryz.ntmps41, argEnv]
  (repeat refine Sat.seq ?_)
  (refine Sat.region_k fun k hk => ?_; simp -implicitDefEqProofs only [evr, id, seval, res_one, res_ro, tre_eql, resRow, trcAg, ep_one, ep_0, ep_1, epRow, evn]; refine hk _ ?_; clear hk k; try show Sat _ _ _ _ _)
  (repeat refine Sat.seq ?_)
  (refine Sat.region_k fun k hk => ?_; simp -implicitDefEqProofs only [evr, id, seval, res_one, res_ro, tre_eql, resRow, trcAg, ep_one, ep_0, ep_1, epRow, evn]; refine hk _ ?_; clear hk k; try show Sat _ _ _ _ _)
  (repeat refine Sat.seq ?_)
  refine Sat.block ?_
  refine Sat.loop (ι := Nat) (fun i => ⟨39, [(3, .i .i64 i), (0, .sl ad xs.length cap 17 (resRd xs.toArray))], []⟩)
    (fun i => i ≤ xs.length ∧ ∀ j, j < i → validR xs.toArray[j]! = true) (fun i => xs.length - i) 0 ⟨Nat.zero_le _, fun j h => absurd h (Nat.not_lt_zero _)⟩ (by simp -implicitDefEqProofs only [evr, id, seval, res_one, res_ro, tre_eql, resRow, trcAg, ep_one, ep_0, ep_1, epRow, evl, evn]; try rfl) ?_
  rintro i ⟨hi, hv⟩
  (repeat refine Sat.seq ?_)
  (refine Sat.region_k fun k hk => ?_; simp -implicitDefEqProofs only [evr, id, seval, res_one, res_ro, tre_eql, resRow, trcAg, ep_one, ep_0, ep_1, epRow, evn]; refine hk _ ?_; clear hk k; try show Sat _ _ _ _ _)
  (repeat refine Sat.seq ?_)
  refine Sat.cond_b rfl (fun h => ?_) (fun h => ?_)
  · have h1 : i < xs.length := by simp only [decide_eq_true_eq] at h; omega
    have e2 : IntKind.i64.wrap ((i : Int) + 1) = ((i + 1 : Nat) : Int) := by rw [w64 (by omega)]; omega
    refine Sat.skip ?_
    simp only [thenK]
    (repeat refine Sat.seq ?_)
    refine Sat.block ?_
    (repeat refine Sat.seq ?_)
    (refine Sat.region_k fun k hk => ?_; simp -implicitDefEqProofs only [evr, id, seval, res_one, res_ro, tre_eql, resRow, trcAg, ep_one, ep_0, ep_1, epRow, evn])
    refine ⟨by omega, ?_⟩
    refine wcall_plain (validG F xs.toArray[i]!) rfl (by rintro _ rfl; exact ok_plain rfl) ?_
    rintro r rfl
    simp -implicitDefEqProofs only [evr, id, seval, res_one, res_ro, tre_eql, resRow, trcAg, ep_one, ep_0, ep_1, epRow, evn]
    (refine hk _ ?_; clear hk k; try show Sat _ _ _ _ _)
    refine Sat.cond_b rfl (fun h3 => ?_) (fun h3 => ?_)
    · (repeat refine Sat.seq ?_)
      (refine Sat.region_k fun k hk => ?_; simp -implicitDefEqProofs only [evr, id, seval, res_one, res_ro, tre_eql, resRow, trcAg, ep_one, ep_0, ep_1, epRow, evn]; refine hk _ ?_; clear hk k; try show Sat _ _ _ _ _)
      refine Sat.ret ?_
      simp only [thenK, blockK, Tryz.results41, evr, id, seval, res_one, res_ro, List.append_nil, Int.toNat_zero, Nat.sub_self, Int.reduceToNat, tre_eql, resRow, trcAg, ep_one, ep_0, ep_1, epRow]
      exact ⟨1, .inl ⟨rfl, _, getB_mem h1, by simpa using h3⟩, rfl⟩
    · refine Sat.skip ?_
      simp only [thenK, blockK, reduceIte]
      (repeat refine Sat.seq ?_)
      refine Sat.region_k fun k2 hk => ?_
      simp -implicitDefEqProofs only [evr, id, seval, res_one, res_ro, tre_eql, resRow, trcAg, ep_one, ep_0, ep_1, epRow, e2, evn]
      refine hk _ ?_
      simp only [thenK, blockK]
      refine ⟨i + 1, ⟨by omega, fun j hj => ?_⟩, by omega, ?_⟩
      · rcases (show j < i ∨ j = i by omega) with h4 | rfl
        · exact hv j h4
        · simpa using h3
      · simp -implicitDefEqProofs only [evr, id, seval, res_one, res_ro, tre_eql, resRow, trcAg, ep_one, ep_0, ep_1, epRow, evl, evn]
  have h1 : i = xs.length := by simp only [decide_eq_false_iff_not] at h; omega
  subst h1
  have hval : ∀ x ∈ xs, validR x = true := fun x hx => by
    obtain ⟨j, hj, rfl⟩ := List.mem_iff_getElem.1 hx
    rw [← getB hj]
    exact hv j hj
  refine Sat.exit ?_
  simp only [thenK, blockK, reduceIte]
  (repeat refine Sat.seq ?_)
  (refine Sat.region_k fun k hk => ?_; simp -implicitDefEqProofs only [evr, id, seval, res_one, res_ro, tre_eql, resRow, trcAg, ep_one, ep_0, ep_1, epRow, evn])
  refine wcall_new (orderG F ad cap xs hl hin) rfl rfl ?_
  rintro ra ty len rc sz rrd ⟨a, c, ys, ho, hyl, e⟩
  simp only [resRow, Own.row.injEq] at e
  obtain ⟨rfl, rfl, rfl, rfl, rfl, rfl⟩ := e
  simp -implicitDefEqProofs only [evr, id, seval, res_one, res_ro, tre_eql, resRow, trcAg, ep_one, ep_0, ep_1, epRow, evn]
  (refine hk _ ?_; clear hk k; try show Sat _ _ _ _ _)
  refine Sat.settle2 4 rfl rfl ?_
  simp -implicitDefEqProofs only [evr, id, seval, res_one, res_ro, tre_eql, resRow, trcAg, ep_one, ep_0, ep_1, epRow, evn]
  (repeat refine Sat.seq ?_)
  (refine Sat.region_k fun k hk => ?_; simp -implicitDefEqProofs only [evr, id, seval, res_one, res_ro, tre_eql, resRow, trcAg, ep_one, ep_0, ep_1, epRow, evn]; refine hk _ ?_; clear hk k; try show Sat _ _ _ _ _)
  (repeat refine Sat.seq ?_)
  refine Sat.cond_b rfl (fun h => ?_) (fun h => ?_)
  · (repeat refine Sat.seq ?_)
    (refine Sat.region_k fun k hk => ?_; simp -implicitDefEqProofs only [evr, id, seval, res_one, res_ro, tre_eql, resRow, trcAg, ep_one, ep_0, ep_1, epRow, evn]; refine hk _ ?_; clear hk k; try show Sat _ _ _ _ _)
    refine Sat.ret ?_
    simp only [thenK, blockK, Tryz.results41, evr, id, seval, res_one, res_ro, List.append_nil, Int.toNat_zero, Nat.sub_self, Int.reduceToNat, tre_eql, resRow, trcAg, ep_one, ep_0, ep_1, epRow]
    exact ⟨5, .inr ⟨hval, ys, ho, .inl ⟨rfl, by simp only [decide_eq_true_eq] at h; omega⟩⟩, rfl⟩
  have hn : ys.length ≤ 512 := by simp only [decide_eq_false_iff_not] at h; omega
  refine Sat.skip ?_
  simp only [thenK]
  (repeat refine Sat.seq ?_)
  (refine Sat.region_k fun k hk => ?_; simp -implicitDefEqProofs only [evr, id, seval, res_one, res_ro, tre_eql, resRow, trcAg, ep_one, ep_0, ep_1, epRow, evn]; refine hk _ ?_; clear hk k; try show Sat _ _ _ _ _)
  (repeat refine Sat.seq ?_)
  refine Sat.block ?_
  refine Sat.loop (ι := Nat) (fun i => ⟨39, [(5, .i .i64 i), (4, .sl ra ys.length rc 17 (resRd ys.toArray))], []⟩)
    (fun i => 1 ≤ i ∧ ∀ j, j < i → j < ys.length → ys.toArray[j]!.tre = ys.toArray[0]!.tre) (fun i => ys.length - i) 1 ⟨Nat.le_refl _, fun j h _ => by rw [show j = 0 by omega]⟩ (by simp -implicitDefEqProofs only [evr, id, seval, res_one, res_ro, tre_eql, resRow, trcAg, ep_one, ep_0, ep_1, epRow, evl, evn]; try rfl) ?_
  rintro i ⟨hi, ht⟩
  (repeat refine Sat.seq ?_)
  (refine Sat.region_k fun k hk => ?_; simp -implicitDefEqProofs only [evr, id, seval, res_one, res_ro, tre_eql, resRow, trcAg, ep_one, ep_0, ep_1, epRow, evn]; refine hk _ ?_; clear hk k; try show Sat _ _ _ _ _)
  (repeat refine Sat.seq ?_)
  refine Sat.cond_b rfl (fun h => ?_) (fun h => ?_)
  · have h1 : i < ys.length := by simp only [decide_eq_true_eq] at h; omega
    have e2 : IntKind.i64.wrap ((i : Int) + 1) = ((i + 1 : Nat) : Int) := by rw [w64 (by omega)]; omega
    refine Sat.skip ?_
    simp only [thenK]
    (repeat refine Sat.seq ?_)
    refine Sat.block ?_
    (repeat refine Sat.seq ?_)
    refine Sat.region_qk (by kernel_rfl) (by kernel_rfl) fun k2 hk => ?_
    simp -implicitDefEqProofs only [evr, id, seval, res_one, res_ro, tre_eql, resRow, trcAg, ep_one, ep_0, ep_1, epRow, evn]
    refine ⟨by omega, ?_⟩
    refine qcall (traceOfG Frm.nil ys.toArray[i]!) rfl (trcAg_ok _) ?_
    simp -implicitDefEqProofs only [evr, id, seval, res_one, res_ro, tre_eql, resRow, trcAg, ep_one, ep_0, ep_1, epRow, evn]
    refine ⟨by omega, ?_⟩
    refine qcall (traceOfG Frm.nil ys.toArray[0]!) rfl (trcAg_ok _) ?_
    simp only [trcAg, evr, id, seval, res_one, res_ro, List.append_nil, Int.toNat_zero, Nat.sub_self, Int.reduceToNat, tre_eql, resRow, trcAg, ep_one, ep_0, ep_1, epRow]
    refine hk _ ?_
    clear hk k2
    try show Sat _ _ _ _ _
    refine Sat.cond_b rfl (fun h3 => ?_) (fun h3 => ?_)
    · (repeat refine Sat.seq ?_)
      (refine Sat.region_k fun k hk => ?_; simp -implicitDefEqProofs only [evr, id, seval, res_one, res_ro, tre_eql, resRow, trcAg, ep_one, ep_0, ep_1, epRow, evn]; refine hk _ ?_; clear hk k; try show Sat _ _ _ _ _)
      refine Sat.ret ?_
      simp only [thenK, blockK, Tryz.results41, evr, id, seval, res_one, res_ro, List.append_nil, Int.toNat_zero, Nat.sub_self, Int.reduceToNat, tre_eql, resRow, trcAg, ep_one, ep_0, ep_1, epRow]
      refine ⟨35, .inr ⟨hval, ys, ho, .inr (.inl ⟨rfl, hn, fun h4 => ?_⟩)⟩, rfl⟩
      have h5 := h4 _ (getB_mem h1) _ (getB_mem (show 0 < ys.length by omega))
      rw [show (⟨ys.toArray[i]!.vantage, ys.toArray[i]!.dst, ys.toArray[i]!.proto⟩ : Tre) = ⟨ys.toArray[0]!.vantage, ys.toArray[0]!.dst, ys.toArray[0]!.proto⟩ from h5] at h3
      simp at h3
    · refine Sat.skip ?_
      simp only [thenK, blockK, reduceIte]
      (repeat refine Sat.seq ?_)
      refine Sat.region_k fun k2 hk => ?_
      simp -implicitDefEqProofs only [evr, id, seval, res_one, res_ro, tre_eql, resRow, trcAg, ep_one, ep_0, ep_1, epRow, e2, evn]
      refine hk _ ?_
      simp only [thenK, blockK]
      refine ⟨i + 1, ⟨by omega, fun j hj hj2 => ?_⟩, by omega, ?_⟩
      · rcases (show j < i ∨ j = i by omega) with h4 | rfl
        · exact ht j h4 hj2
        · show (⟨_, _, _⟩ : Tre) = ⟨_, _, _⟩
          simpa using h3
      · simp -implicitDefEqProofs only [evr, id, seval, res_one, res_ro, tre_eql, resRow, trcAg, ep_one, ep_0, ep_1, epRow, evl, evn]
  have h1 : ys.length ≤ i := by simp only [decide_eq_false_iff_not] at h; omega
  refine Sat.exit ?_
  simp only [thenK, blockK, reduceIte]
  (repeat refine Sat.seq ?_)
  (refine Sat.region_k fun k hk => ?_; simp -implicitDefEqProofs only [evr, id, seval, res_one, res_ro, tre_eql, resRow, trcAg, ep_one, ep_0, ep_1, epRow, evn]; refine hk _ ?_; clear hk k; try show Sat _ _ _ _ _)
  refine Sat.ret ?_
  simp only [Tryz.results41, evr, id, seval, res_one, res_ro, List.append_nil, Int.toNat_zero, Nat.sub_self, Int.reduceToNat, tre_eql, resRow, trcAg, ep_one, ep_0, ep_1, epRow]
  refine ⟨0, .inr ⟨hval, ys, ho, .inr (.inr ⟨rfl, hn, fun r hr s hs => ?_⟩)⟩, rfl⟩
  obtain ⟨j, hj, rfl⟩ := List.mem_iff_getElem.1 hr
  obtain ⟨q, hq, rfl⟩ := List.mem_iff_getElem.1 hs
  rw [← getB hj, ← getB hq, ht j (by omega) hj, ht q (by omega) hq]
theorem chk_cases {xs : List Res} {e : Int} (h : ChkRes xs e) : (e ≠ 0 ∧ CutRes xs [] e) ∨ (e = 0 ∧ (∀ x ∈ xs, validR x = true) ∧ ∃ ys, OrdOf xs ys ∧ ys.length ≤ 512 ∧ oneT ys) := by
  rcases h with ⟨rfl, h1⟩ | ⟨hv, ys, ho, ⟨rfl, h1⟩ | ⟨rfl, h1, h2⟩ | ⟨rfl, h1, h2⟩⟩
  · exact .inl ⟨by decide, .inl ⟨rfl, rfl, h1⟩⟩
  · exact .inl ⟨by decide, .inr ⟨hv, ys, ho, .inl ⟨rfl, rfl, h1⟩⟩⟩
  · exact .inl ⟨by decide, .inr ⟨hv, ys, ho, .inr (.inl ⟨rfl, rfl, h1, h2⟩)⟩⟩
  · exact .inr ⟨rfl, hv, ys, ho, h1, h2⟩
def FitP (g : Nat → Res) (i : Nat) (l : List (Nat × Nat)) (b : Bool) : Prop :=
  (b = true ∧ ∃ m a, Pre g m a ∧ a < i ∧ Seg g a i ∧ l = m ++ [(a, i)] ∧ ¬ Bad g a i) ∨ (b = false ∧ ((i = 0 ∧ l = []) ∨ ∃ m a, Pre g m a ∧ a < i ∧ Seg g a i ∧ l = m ++ [(a, i)] ∧ Bad g a i))
theorem FitP.more {g : Nat → Res} {i : Nat} {l : List (Nat × Nat)} (h : FitP g i l true) : ∃ m a, l = m ++ [(a, i)] ∧ Cuts g (i + 1) (m ++ [(a, i + 1)]) := by
  rcases h with ⟨_, m, a, h1, h2, h3, rfl, h4⟩ | ⟨h, _⟩
  · exact ⟨m, a, rfl, Cuts.more h1 h2 h3 h4⟩
  · cases h
theorem FitP.new {g : Nat → Res} {i : Nat} {l : List (Nat × Nat)} (h : FitP g i l false) : Cuts g (i + 1) (l ++ [(i, i + 1)]) := by
  rcases h with ⟨h, _⟩ | ⟨_, ⟨rfl, rfl⟩ | ⟨m, a, h1, h2, h3, rfl, h4⟩⟩
  · cases h
  · exact Cuts.one g
  · exact Cuts.new h1 h2 h3 h4
theorem ep_set {m : List (Nat × Nat)} {a i : Nat} {x : Int} (hx : x = ((i + 1 : Nat) : Int)) {ix : Nat} (hix : ix = m.length) : rdEq (m ++ [(a, i)]).length 2 (rdSet (epRd (m ++ [(a, i)])) ix 1 [.i .i64 x]) (epRd (m ++ [(a, i + 1)])) := by
  subst hx; subst hix
  intro p c hp hc
  unfold rdSet
  by_cases h : p = m.length
  · subst h
    rcases (show c = 0 ∨ c = 1 by omega) with rfl | rfl <;> simp [epRd, List.getD]
  · have h2 : p < m.length := by simp at hp; omega
    show (if _ then _ else epRd (m ++ [(a, i)]) p c) = _
    rw [if_neg (fun g => h g.1)]
    unfold epRd
    rw [show (m ++ [(a, i)]).getD p (0, 0) = (m ++ [(a, i + 1)]).getD p (0, 0) by simp [List.getD, List.getElem?_append, h2]]
set_option maxHeartbeats 1000000 in
set_option maxRecDepth 100000 in
theorem cutG (F : Frm) (ad : Option Addr) (cap : Nat) (xs : List Res) (hl : xs.length ≤ 1000000000) (hin : ∀ r ∈ xs, RgR r) :
    Contract F Tryz.prog 11 [.sl ad xs.length cap 17 (resRd xs.toArray)] (fun r => ∃ (a : Option Addr) (cap : Nat) (l : List (Nat × Nat)) (e : Int), CutRes xs l e ∧ l.length ≤ 1000 ∧ r = tupL [.sl a l.length cap 2 (epRd l), .i .i64 e]) := by
  refine contract_of Tryz.func11 rfl (by kernel_rfl) ?_
  simp only [Tryz.ntmps11, argEnv]
  (repeat refine Sat.seq ?_)
  (refine Sat.region_k fun k hk => ?_; simp -implicitDefEqProofs only [evr, id, seval, res_one, res_ro, tre_eql, resRow, trcAg, ep_one, ep_0, ep_1, epRow, evn]; refine hk _ ?_; clear hk k; try show Sat _ _ _ _ _)
  (repeat refine Sat.seq ?_)
  (refine Sat.region_k fun k hk => ?_; simp -implicitDefEqProofs only [evr, id, seval, res_one, res_ro, tre_eql, resRow, trcAg, ep_one, ep_0, ep_1, epRow, evn])
  refine wcall_plain (checkAllG F ad cap xs hl hin) rfl (by rintro _ ⟨e, _, rfl⟩; exact ok_plain rfl) ?_
  rintro r ⟨e, hchk, rfl⟩
  simp -implicitDefEqProofs only [evr, id, seval, res_one, res_ro, tre_eql, resRow, trcAg, ep_one, ep_0, ep_1, epRow, evn]
  (refine hk _ ?_; clear hk k; try show Sat _ _ _ _ _)
  rcases chk_cases hchk with ⟨he, hcr⟩ | ⟨rfl, hval, zs, hoz, hnz, honez⟩
  · have en : (e != 0) = true := by simpa using he
    (repeat refine Sat.seq ?_)
    (refine Sat.region_k fun k hk => ?_; simp -implicitDefEqProofs only [evr, id, seval, res_one, res_ro, tre_eql, resRow, trcAg, ep_one, ep_0, ep_1, epRow, evn]; refine hk _ ?_; clear hk k; try show Sat _ _ _ _ _)
    refine Sat.cond_b rfl (fun _ => ?_) (fun h => by rw [en] at h; cases h)
    (repeat refine Sat.seq ?_)
    (refine Sat.region_k fun k hk => ?_; simp -implicitDefEqProofs only [evr, id, seval, res_one, res_ro, tre_eql, resRow, trcAg, ep_one, ep_0, ep_1, epRow, evn]; refine hk _ ?_; clear hk k; try show Sat _ _ _ _ _)
    refine Sat.adopt 2 25 2 (epRd []) rfl ?_
    refine Sat.ret ?_
    simp only [thenK, Tryz.results11, evr, id, seval, res_one, res_ro, List.append_nil, Int.toNat_zero, Nat.sub_self, Int.reduceToNat, tre_eql, resRow, trcAg, ep_one, ep_0, ep_1, epRow]
    exact ⟨none, 0, [], e, hcr, by simp, rfl⟩
  (repeat refine Sat.seq ?_)
  (refine Sat.region_k fun k hk => ?_; simp -implicitDefEqProofs only [evr, id, seval, res_one, res_ro, tre_eql, resRow, trcAg, ep_one, ep_0, ep_1, epRow, evn]; refine hk _ ?_; clear hk k; try show Sat _ _ _ _ _)
  refine Sat.cond_b rfl (fun h => absurd h (by decide)) (fun _ => ?_)
  refine Sat.skip ?_
  simp only [thenK]
  (repeat refine Sat.seq ?_)
  (refine Sat.region_k fun k hk => ?_; simp -implicitDefEqProofs only [evr, id, seval, res_one, res_ro, tre_eql, resRow, trcAg, ep_one, ep_0, ep_1, epRow, evn])
  refine wcall_new (orderG F ad cap xs hl hin) rfl rfl ?_
  rintro ra ty len rc sz rrd ⟨a, c, ys, ho, hyl, e⟩
  simp only [resRow, Own.row.injEq] at e
  obtain ⟨rfl, rfl, rfl, rfl, rfl, rfl⟩ := e
  obtain rfl := ho.unique hoz
  simp -implicitDefEqProofs only [evr, id, seval, res_one, res_ro, tre_eql, resRow, trcAg, ep_one, ep_0, ep_1, epRow, evn]
  (refine hk _ ?_; clear hk k; try show Sat _ _ _ _ _)
  refine Sat.settle2 5 rfl rfl ?_
  simp -implicitDefEqProofs only [evr, id, seval, res_one, res_ro, tre_eql, resRow, trcAg, ep_one, ep_0, ep_1, epRow, evn]
  (repeat refine Sat.seq ?_)
  (refine Sat.region_k fun k hk => ?_; simp -implicitDefEqProofs only [evr, id, seval, res_one, res_ro, tre_eql, resRow, trcAg, ep_one, ep_0, ep_1, epRow, evn]; refine hk _ ?_; clear hk k; try show Sat _ _ _ _ _)
  refine Sat.adopt 6 25 2 (epRd []) rfl ?_
  (repeat refine Sat.seq ?_)
  (refine Sat.region_k fun k hk => ?_; simp -implicitDefEqProofs only [evr, id, seval, res_one, res_ro, tre_eql, resRow, trcAg, ep_one, ep_0, ep_1, epRow, evn]; refine hk _ ?_; clear hk k; try show Sat _ _ _ _ _)
  refine Sat.block ?_
  refine Sat.loop (ι := Nat × List (Nat × Nat) × Option Addr × Nat) (fun z => ⟨69, [(7, .i .i64 z.1), (6, .os 1 z.2.2.1 z.2.1.length z.2.2.2), (5, .sl ra ys.length rc 17 (resRd ys.toArray))], [.gone, epRow z.2.2.1 z.2.2.2 z.2.1]⟩)
    (fun z => z.1 ≤ ys.length ∧ Cuts (fun i => ys.toArray[i]!) z.1 z.2.1) (fun z => ys.length - z.1) (0, [], none, 0) ⟨Nat.zero_le _, Cuts.zero _⟩ (by simp -implicitDefEqProofs only [evr, id, seval, res_one, res_ro, tre_eql, resRow, trcAg, ep_one, ep_0, ep_1, epRow, evl, evn]; first | exact ⟨rfl, rfl⟩ | rfl | trace_state) ?_
  rintro ⟨i, l, la, lc⟩ ⟨hi, hcu⟩
  simp only [epRow] at hi hcu ⊢
  have hlb := hcu.bound
  (repeat refine Sat.seq ?_)
  (refine Sat.region_k fun k hk => ?_; simp -implicitDefEqProofs only [evr, id, seval, res_one, res_ro, tre_eql, resRow, trcAg, ep_one, ep_0, ep_1, epRow, evn]; refine hk _ ?_; clear hk k; try show Sat _ _ _ _ _)
  (repeat refine Sat.seq ?_)
  refine Sat.cond_b rfl (fun h => ?_) (fun h => ?_)
  · have h1 : i < ys.length := by simp only [decide_eq_true_eq] at h; omega
    have e2 : IntKind.i64.wrap ((i : Int) + 1) = ((i + 1 : Nat) : Int) := by rw [w64 (by omega)]; omega
    have e5 : IntKind.i64.wrap ((l.length : Int) - 1) = (l.length : Int) - 1 := w64 (by omega)
    refine Sat.skip ?_
    simp only [thenK]
    (repeat refine Sat.seq ?_)
    refine Sat.block ?_
    (repeat refine Sat.seq ?_)
    (refine Sat.region_k fun k hk => ?_; simp -implicitDefEqProofs only [evr, id, seval, res_one, res_ro, tre_eql, resRow, trcAg, ep_one, ep_0, ep_1, epRow, evn]; refine hk _ ?_; clear hk k; try show Sat _ _ _ _ _)
    (repeat refine Sat.seq ?_)
    (refine Sat.region_k fun k hk => ?_; simp -implicitDefEqProofs only [evr, id, seval, res_one, res_ro, tre_eql, resRow, trcAg, ep_one, ep_0, ep_1, epRow, evn]; refine hk _ ?_; clear hk k; try show Sat _ _ _ _ _)
    (repeat refine Sat.seq ?_)
    (refine Sat.region_k fun k hk => ?_; simp -implicitDefEqProofs only [evr, id, seval, res_one, res_ro, tre_eql, resRow, trcAg, ep_one, ep_0, ep_1, epRow, evn]; refine hk _ ?_; clear hk k; try show Sat _ _ _ _ _)
    refine Sat.atF (ι := Bool) (fun b => ⟨69, [(9, .b b), (8, .i .i64 l.length), (7, .i .i64 i), (6, .os 1 la l.length lc), (5, .sl ra ys.length rc 17 (resRd ys.toArray))], [.gone, epRow la lc l]⟩) (fun b => FitP (fun i => ys.toArray[i]!) i l b) ?_ ?_
    · refine Sat.cond_b rfl (fun h2 => ?_) (fun h2 => ?_)
      · have hl0 : 0 < l.length := by simp only [decide_eq_true_eq] at h2; omega
        have hi0 : 0 < i := by
          have := hcu.len0
          omega
        obtain ⟨m, a0, hp, ha0, hsg, hlm, hgl⟩ := hcu.last hi0
        (repeat refine Sat.seq ?_)
        refine Sat.region_k fun k2 hk => ?_
        simp -implicitDefEqProofs only [evr, id, seval, res_one, res_ro, tre_eql, resRow, trcAg, ep_one, ep_0, ep_1, epRow, e5, evn]
        refine ⟨by omega, by omega, ?_⟩
        rw [show ((l.length : Int) - 1).toNat = l.length - 1 by omega, hgl]
        refine hk _ ?_
        clear hk k2
        simp only [thenK]
        (repeat refine Sat.seq ?_)
        refine Sat.block ?_
        refine Sat.loop (ι := Nat × Bool) (fun z => ⟨69, [(10, .i .i64 z.1), (9, .b z.2), (8, .i .i64 l.length), (7, .i .i64 i), (6, .os 1 la l.length lc), (5, .sl ra ys.length rc 17 (resRd ys.toArray))], [.gone, epRow la lc l]⟩)
          (fun z => a0 ≤ z.1 ∧ z.1 ≤ i ∧ (z.2 = true ↔ ∀ j, a0 ≤ j → j < z.1 → contraR ys.toArray[j]! ys.toArray[i]! = false)) (fun z => i - z.1) (a0, true) ⟨Nat.le_refl _, Nat.le_of_lt ha0, ⟨fun _ j h3 h4 => by omega, fun _ => rfl⟩⟩ (by simp only [h2, epRow]; simp -implicitDefEqProofs only [evr, id, seval, res_one, res_ro, tre_eql, resRow, trcAg, ep_one, ep_0, ep_1, epRow, evl, evn]; first | rfl | trace_state) ?_
        rintro ⟨q, b⟩ ⟨hq1, hq2, hb⟩
        simp only [epRow] at hq1 hq2 hb ⊢
        (repeat refine Sat.seq ?_)
        (refine Sat.region_k fun k hk => ?_; simp -implicitDefEqProofs only [evr, id, seval, res_one, res_ro, tre_eql, resRow, trcAg, ep_one, ep_0, ep_1, epRow, evn]; refine hk _ ?_; clear hk k; try show Sat _ _ _ _ _)
        (repeat refine Sat.seq ?_)
        refine Sat.cond_b rfl (fun h3 => ?_) (fun h3 => ?_)
        · have hqi : q < i := by simp only [decide_eq_true_eq] at h3; omega
          have e3 : IntKind.i64.wrap ((q : Int) + 1) = ((q + 1 : Nat) : Int) := by rw [w64 (by omega)]; omega
          refine Sat.skip ?_
          simp only [thenK]
          (repeat refine Sat.seq ?_)
          refine Sat.block ?_
          refine Sat.at ⟨69, [(10, .i .i64 q), (9, .b (b && !contraR ys.toArray[q]! ys.toArray[i]!)), (8, .i .i64 l.length), (7, .i .i64 i), (6, .os 1 la l.length lc), (5, .sl ra ys.length rc 17 (resRd ys.toArray))], [.gone, epRow la lc l]⟩ ?_ ?_
          · cases b with
            | true =>
              refine Sat.region_qk (by kernel_rfl) (by kernel_rfl) fun k2 hk => ?_
              simp -implicitDefEqProofs only [evr, id, seval, res_one, res_ro, tre_eql, resRow, trcAg, ep_one, ep_0, ep_1, epRow, evn]
              refine ⟨by omega, by omega, ?_⟩
              refine qcall (contradictG Frm.nil ys.toArray[q]! ys.toArray[i]!) rfl (ok_plain rfl) ?_
              simp -implicitDefEqProofs only [evr, id, seval, res_one, res_ro, tre_eql, resRow, trcAg, ep_one, ep_0, ep_1, epRow, evn]
              refine hk _ ?_
              simp only [thenK, epRow, Bool.true_and]
              simp -implicitDefEqProofs only [evr, id, seval, res_one, res_ro, tre_eql, resRow, trcAg, ep_one, ep_0, ep_1, epRow, evl, evn]
            | false =>
              refine Sat.region_qk (by kernel_rfl) (by kernel_rfl) fun k2 hk => ?_
              simp -implicitDefEqProofs only [evr, id, seval, res_one, res_ro, tre_eql, resRow, trcAg, ep_one, ep_0, ep_1, epRow, evn]
              refine hk _ ?_
              simp only [thenK, epRow, Bool.false_and]
              simp -implicitDefEqProofs only [evr, id, seval, res_one, res_ro, tre_eql, resRow, trcAg, ep_one, ep_0, ep_1, epRow, evl, evn]
          simp only [thenK, blockK, reduceIte, epRow]
          (repeat refine Sat.seq ?_)
          refine Sat.region_k fun k2 hk => ?_
          simp -implicitDefEqProofs only [evr, id, seval, res_one, res_ro, tre_eql, resRow, trcAg, ep_one, ep_0, ep_1, epRow, e3, evn]
          refine hk _ ?_
          simp only [thenK, blockK]
          refine ⟨(q + 1, b && !contraR ys.toArray[q]! ys.toArray[i]!), ⟨by show a0 ≤ q + 1; omega, by show q + 1 ≤ i; omega, ?_⟩, by show i - (q + 1) < i - q; omega, ?_⟩
          · show (b && !contraR ys.toArray[q]! ys.toArray[i]!) = true ↔ _
            rw [Bool.and_eq_true, hb, Bool.not_eq_true']
            constructor
            · rintro ⟨g1, g2⟩ j g3 g4
              rcases (show j < q ∨ j = q by have : j < q + 1 := g4; omega) with g5 | rfl
              · exact g1 j g3 g5
              · exact g2
            · intro g
              exact ⟨fun j g3 g4 => g j g3 (by show j < q + 1; omega), g q hq1 (by show q < q + 1; omega)⟩
          · simp only [epRow]
            simp -implicitDefEqProofs only [evr, id, seval, res_one, res_ro, tre_eql, resRow, trcAg, ep_one, ep_0, ep_1, epRow, evl, evn]
        · obtain rfl : q = i := by simp only [decide_eq_false_iff_not] at h3; omega
          refine Sat.exit ?_
          simp only [thenK, blockK, reduceIte]
          refine ⟨b, ?_, ?_⟩
          · cases b with
            | true => exact .inl ⟨rfl, m, a0, hp, ha0, hsg, hlm, fun ⟨j, g1, g2, g3⟩ => by rw [hb.1 rfl j g1 g2] at g3; cases g3⟩
            | false =>
              refine .inr ⟨rfl, .inr ⟨m, a0, hp, ha0, hsg, hlm, ?_⟩⟩
              refine Classical.byContradiction fun hno => ?_
              have := hb.2 fun j g1 g2 => by
                cases g3 : contraR ys.toArray[j]! ys.toArray[q]! with
                | false => rfl
                | true => exact absurd ⟨j, g1, g2, g3⟩ hno
              cases this
          · simp -implicitDefEqProofs only [evr, id, seval, res_one, res_ro, tre_eql, resRow, trcAg, ep_one, ep_0, ep_1, epRow, evl, evn]
      · have hl0 : l.length = 0 := by simp only [decide_eq_false_iff_not] at h2; omega
        refine Sat.skip ?_
        simp only [thenK]
        refine ⟨false, .inr ⟨rfl, .inl ⟨hcu.len0.1 hl0, List.eq_nil_of_length_eq_zero hl0⟩⟩, ?_⟩
        simp only [h2]
        simp -implicitDefEqProofs only [evr, id, seval, res_one, res_ro, tre_eql, resRow, trcAg, ep_one, ep_0, ep_1, epRow, evl, evn]
    · intro b hb
      simp only [thenK, epRow]
      (repeat refine Sat.seq ?_)
      (refine Sat.region_k fun k hk => ?_; simp -implicitDefEqProofs only [evr, id, seval, res_one, res_ro, tre_eql, resRow, trcAg, ep_one, ep_0, ep_1, epRow, evn]; refine hk _ ?_; clear hk k; try show Sat _ _ _ _ _)
      cases b with
      | true =>
        obtain ⟨m, a0, rfl, hcu2⟩ := FitP.more hb
        have hml : (m ++ [(a0, i)]).length = m.length + 1 := by simp
        have hml2 : (m ++ [(a0, i + 1)]).length = (m ++ [(a0, i)]).length := by simp
        refine Sat.cond_b rfl (fun _ => ?_) (fun h => by cases h)
        (repeat refine Sat.seq ?_)
        refine Sat.region_k fun k2 hk => ?_
        simp -implicitDefEqProofs only [evr, id, seval, res_one, res_ro, tre_eql, resRow, trcAg, ep_one, ep_0, ep_1, epRow, e2, e5, evn]
        refine ⟨by omega, by omega, ?_⟩
        refine hk _ ?_
        clear hk k2
        simp only [thenK, blockK, reduceIte]
        (repeat refine Sat.seq ?_)
        refine Sat.region_k fun k2 hk => ?_
        simp -implicitDefEqProofs only [evr, id, seval, res_one, res_ro, tre_eql, resRow, trcAg, ep_one, ep_0, ep_1, epRow, e2, evn]
        refine hk _ ?_
        simp only [thenK, blockK]
        refine ⟨(i + 1, m ++ [(a0, i + 1)], la, lc), ⟨by show i + 1 ≤ ys.length; omega, hcu2⟩, by show ys.length - (i + 1) < ys.length - i; omega, ?_⟩
        simp only [epRow, hml2]
        simp -implicitDefEqProofs only [evr, id, seval, res_one, res_ro, tre_eql, resRow, trcAg, ep_one, ep_0, ep_1, epRow, evl, evn]
        try exact ep_set rfl (by omega)
      | false =>
        have hcu2 := FitP.new hb
        have hml2 : (l ++ [(i, i + 1)]).length = l.length + 1 := by simp
        refine Sat.cond_b rfl (fun h => by cases h) (fun _ => ?_)
        (repeat refine Sat.seq ?_)
        refine Sat.region_k fun k2 hk => ?_
        simp -implicitDefEqProofs only [evr, id, seval, res_one, res_ro, tre_eql, resRow, trcAg, ep_one, ep_0, ep_1, epRow, e2, evn]
        intro blk
        refine ⟨⟨by unfold maxLen; omega, by omega⟩, fun la2 lc2 => ?_⟩
        refine hk _ ?_
        clear hk k2
        simp only [thenK, blockK, reduceIte]
        (repeat refine Sat.seq ?_)
        refine Sat.region_k fun k2 hk => ?_
        simp -implicitDefEqProofs only [evr, id, seval, res_one, res_ro, tre_eql, resRow, trcAg, ep_one, ep_0, ep_1, epRow, e2, evn]
        refine hk _ ?_
        simp only [thenK, blockK]
        refine ⟨(i + 1, l ++ [(i, i + 1)], la2, lc2), ⟨by show i + 1 ≤ ys.length; omega, hcu2⟩, by show ys.length - (i + 1) < ys.length - i; omega, ?_⟩
        simp only [epRow, hml2]
        simp -implicitDefEqProofs only [evr, id, seval, res_one, res_ro, tre_eql, resRow, trcAg, ep_one, ep_0, ep_1, epRow, evl, evn]
        try exact ep_app rfl
  · have h1 : i = ys.length := by simp only [decide_eq_false_iff_not] at h; omega
    subst h1
    refine Sat.exit ?_
    simp only [thenK, blockK, reduceIte]
    (repeat refine Sat.seq ?_)
    (refine Sat.region_k fun k hk => ?_; simp -implicitDefEqProofs only [evr, id, seval, res_one, res_ro, tre_eql, resRow, trcAg, ep_one, ep_0, ep_1, epRow, evn]; refine hk _ ?_; clear hk k; try show Sat _ _ _ _ _)
    refine Sat.ret ?_
    simp only [Tryz.results11, evr, id, seval, res_one, res_ro, List.append_nil, Int.toNat_zero, Nat.sub_self, Int.reduceToNat, tre_eql, resRow, trcAg, ep_one, ep_0, ep_1, epRow]
    exact ⟨la, lc, l, 0, .inr ⟨hval, ys, ho, .inr (.inr ⟨rfl, hnz, honez, hcu⟩)⟩, by omega, rfl⟩
end Go.Proofs.YtkpmihaaijiihaaGreat

/- The reference of episodes, by the evaluator: Part, Fewest, Latest, Same; SameResults; episode.Latest. -/
set_option linter.unusedSimpArgs false
set_option linter.unusedVariables false
namespace Go.Proofs.YtkpmihaaijiihaaGreat
open Go.Sort Eng
set_option maxRecDepth 100000 in
theorem partG (F : Frm) (ad : Option Addr) (cap : Nat) (xs : List Res) (hl : xs.length ≤ 1000000000) (hin : ∀ r ∈ xs, RgR r) (a b : Int) :
    ContractN F Tryz.prog 24 [.sl ad xs.length cap 17 (resRd xs.toArray), .agg 2 fun j => [SV.i .i64 a, .i .i64 b].getD j default] (fun o => ∃ a' cap ys, OrdOf xs ys ∧ o = resRow a' (partL ys a b).length cap (partL ys a b).toArray) := by
  refine contractN_of Tryz.func24 rfl (by kernel_rfl) ?_
  simp only [Tryz.ntmps24, argEnv]
  (repeat refine Sat.seq ?_)
  (refine Sat.region_k fun k hk => ?_; simp -implicitDefEqProofs only [evr, id, seval, res_one, res_ro, resRow, ep_one, ep_0, ep_1, epRow, res_eqr, evn])
  intro b1
  (refine hk _ ?_; clear hk k; try show Sat _ _ _ _ _)
  (repeat refine Sat.seq ?_)
  (refine Sat.region_k fun k hk => ?_; simp -implicitDefEqProofs only [evr, id, seval, res_one, res_ro, resRow, ep_one, ep_0, ep_1, epRow, res_eqr, evn])
  refine wcall_new (orderG F ad cap xs hl hin) rfl rfl ?_
  rintro ra ty len rc sz rrd ⟨a1, c, ys, ho, hyl, e⟩
  simp only [resRow, Own.row.injEq] at e
  obtain ⟨rfl, rfl, rfl, rfl, rfl, rfl⟩ := e
  simp -implicitDefEqProofs only [evr, id, seval, res_one, res_ro, resRow, ep_one, ep_0, ep_1, epRow, res_eqr, evn]
  (refine hk _ ?_; clear hk k; try show Sat _ _ _ _ _)
  refine Sat.settle2 5 rfl rfl ?_
  simp -implicitDefEqProofs only [evr, id, seval, res_one, res_ro, resRow, ep_one, ep_0, ep_1, epRow, res_eqr, evn]
  (repeat refine Sat.seq ?_)
  refine Sat.at ⟨32, [(24, .b (!decide (0 ≤ a ∧ a ≤ b ∧ b ≤ ys.length))), (5, .sl ra ys.length rc 17 (resRd ys.toArray)), (3, .op 0 b1 0), (4, .sl none 0 0 0 (fun _ _ => .v undef))], [.box b1 25 [.i .i64 a, .i .i64 b]]⟩ ?_ ?_
  · (refine Sat.region_k fun k hk => ?_; simp -implicitDefEqProofs only [evr, id, seval, res_one, res_ro, resRow, ep_one, ep_0, ep_1, epRow, res_eqr, evn])
    refine ⟨fun q1 => hk _ ?_, fun q1 => ⟨fun q2 => hk _ ?_, fun q2 => hk _ ?_⟩⟩
    · have e : decide (0 ≤ a ∧ a ≤ b ∧ b ≤ (ys.length : Int)) = false := decide_eq_false (by omega)
      simp only [thenK, e, Bool.not_false]
      simp -implicitDefEqProofs only [evr, id, seval, res_one, res_ro, resRow, ep_one, ep_0, ep_1, epRow, res_eqr, evl, evn]
    · have e : decide (0 ≤ a ∧ a ≤ b ∧ b ≤ (ys.length : Int)) = false := decide_eq_false (by omega)
      simp only [thenK, e, Bool.not_false]
      simp -implicitDefEqProofs only [evr, id, seval, res_one, res_ro, resRow, ep_one, ep_0, ep_1, epRow, res_eqr, evl, evn]
    · have e : decide ((ys.length : Int) < b) = !decide (0 ≤ a ∧ a ≤ b ∧ b ≤ (ys.length : Int)) := by
        by_cases h : (ys.length : Int) < b
        · rw [decide_eq_true h, decide_eq_false (by omega)]; rfl
        · rw [decide_eq_false h, decide_eq_true (by omega)]; rfl
      simp only [thenK, e]
      simp -implicitDefEqProofs only [evr, id, seval, res_one, res_ro, resRow, ep_one, ep_0, ep_1, epRow, res_eqr, evl, evn]
  simp only [thenK]
  (repeat refine Sat.seq ?_)
  refine Sat.cond_b rfl (fun h => ?_) (fun h => ?_)
  · have hno : ¬ (0 ≤ a ∧ a ≤ b ∧ b ≤ ys.length) := by
      intro hh
      rw [decide_eq_true hh] at h
      cases h
    (repeat refine Sat.seq ?_)
    (refine Sat.region_k fun k hk => ?_; simp -implicitDefEqProofs only [evr, id, seval, res_one, res_ro, resRow, ep_one, ep_0, ep_1, epRow, res_eqr, evn]; refine hk _ ?_; clear hk k; try show Sat _ _ _ _ _)
    refine Sat.adopt 4 54 17 (resRd #[]) rfl ?_
    refine Sat.ret ?_
    simp only [Tryz.results24, evr, id, seval, res_one, res_ro, List.append_nil, Int.toNat_zero, Nat.sub_self, Int.reduceToNat, resRow, ep_one, ep_0, ep_1, epRow, res_eqr, retN, retNK, newRow]
    have e0 : partL ys a b = [] := if_neg hno
    exact ⟨⟨rfl, rfl, rfl⟩, _, _, ys, ho, by rw [e0]; rfl⟩
  · have hyes : 0 ≤ a ∧ a ≤ b ∧ b ≤ ys.length := by
      apply Classical.byContradiction
      intro hh
      rw [decide_eq_false hh] at h
      cases h
    have hlen : (partL ys a b).length = b.toNat - a.toNat := by
      unfold partL
      rw [if_pos hyes, List.length_drop, List.length_take]
      omega
    refine Sat.skip ?_
    simp only [thenK]
    (repeat refine Sat.seq ?_)
    (refine Sat.region_k fun k hk => ?_; simp -implicitDefEqProofs only [evr, id, seval, res_one, res_ro, resRow, ep_one, ep_0, ep_1, epRow, res_eqr, evn])
    refine ⟨hyes, ⟨by unfold maxLen; omega, by omega⟩, fun ax cx => ?_⟩
    (refine hk _ ?_; clear hk k; try show Sat _ _ _ _ _)
    refine Sat.reread 1 (resRd (partL ys a b).toArray) rfl (fun i j hi hj => by have h9 := part_rd hyes i j hi hj; simp only at h9; rw [h9]; exact sim_refl _) ?_
    simp -implicitDefEqProofs only [evr, id, seval, res_one, res_ro, resRow, ep_one, ep_0, ep_1, epRow, res_eqr, evn]
    refine Sat.ret ?_
    simp only [Tryz.results24, evr, id, seval, res_one, res_ro, List.append_nil, Int.toNat_zero, Nat.sub_self, Int.reduceToNat, resRow, ep_one, ep_0, ep_1, epRow, res_eqr, retN, retNK, newRow]
    exact ⟨⟨rfl, rfl, rfl⟩, _, _, ys, ho, by rw [hlen]⟩
set_option maxRecDepth 100000 in
theorem fewestG (F : Frm) (ad : Option Addr) (cap : Nat) (xs : List Res) (hl : xs.length ≤ 1000000000) (hin : ∀ r ∈ xs, RgR r) :
    Contract F Tryz.prog 15 [.sl ad xs.length cap 17 (resRd xs.toArray)] (fun r => ∃ (l : List (Nat × Nat)) (e : Int), CutRes xs l e ∧ l.length ≤ 1000 ∧ r = tupL [.i .i64 (l.length : Nat), .i .i64 e]) := by
  refine contract_of Tryz.func15 rfl (by kernel_rfl) ?_
  simp only [Tryz.ntmps15, argEnv]
  (repeat refine Sat.seq ?_)
  (refine Sat.region_k fun k hk => ?_; simp -implicitDefEqProofs only [evr, id, seval, res_one, res_ro, resRow, ep_one, ep_0, ep_1, epRow, res_eqr, evn]; refine hk _ ?_; clear hk k; try show Sat _ _ _ _ _)
  (repeat refine Sat.seq ?_)
  (refine Sat.region_k fun k hk => ?_; simp -implicitDefEqProofs only [evr, id, seval, res_one, res_ro, resRow, ep_one, ep_0, ep_1, epRow, res_eqr, evn])
  refine wcall_slice (cutG F ad cap xs hl hin) rfl (by simp -implicitDefEqProofs only [evr, id, seval, res_one, res_ro, resRow, ep_one, ep_0, ep_1, epRow, res_eqr, evn]) ?_
  rintro r ⟨a, c, l, e, hc, hll, rfl⟩
  simp -implicitDefEqProofs only [evr, id, seval, res_one, res_ro, resRow, ep_one, ep_0, ep_1, epRow, res_eqr, evn]
  (refine hk _ ?_; clear hk k; try show Sat _ _ _ _ _)
  (repeat refine Sat.seq ?_)
  (refine Sat.region_k fun k hk => ?_; simp -implicitDefEqProofs only [evr, id, seval, res_one, res_ro, resRow, ep_one, ep_0, ep_1, epRow, res_eqr, evn]; refine hk _ ?_; clear hk k; try show Sat _ _ _ _ _)
  refine Sat.ret ?_
  simp only [Tryz.results15, evr, id, seval, res_one, res_ro, List.append_nil, Int.toNat_zero, Nat.sub_self, Int.reduceToNat, resRow, ep_one, ep_0, ep_1, epRow, res_eqr]
  exact ⟨l, e, hc, hll, rfl⟩
def LatRes (xs zs : List Res) (e : Int) : Prop := ∃ l, CutRes xs l e ∧ (((e ≠ 0 ∨ l = []) ∧ zs = []) ∨ (e = 0 ∧ l ≠ [] ∧ ∃ ys, OrdOf xs ys ∧ zs = partL ys ((l.getD (l.length - 1) (0, 0)).1 : Nat) ((l.getD (l.length - 1) (0, 0)).2 : Nat)))
theorem latRes_eq {xs zs zs' : List Res} {e e' : Int} (h : LatRes xs zs e) (g : LatRes xs zs' e') : zs' = zs ∧ e' = e := by
  obtain ⟨l, h1, h2⟩ := h
  obtain ⟨l', g1, g2⟩ := g
  obtain ⟨rfl, rfl⟩ := cutRes_eq h1 g1
  refine ⟨?_, rfl⟩
  rcases h2 with ⟨h3, rfl⟩ | ⟨h3, h4, ys, ho, rfl⟩ <;> rcases g2 with ⟨g3, rfl⟩ | ⟨g3, g4, ys', go', rfl⟩
  · rfl
  · rcases h3 with h3 | h3
    · exact absurd g3 h3
    · exact absurd h3 g4
  · rcases g3 with g3 | g3
    · exact absurd h3 g3
    · exact absurd g3 h4
  · rw [go'.unique ho]
theorem partL_le (ys : List Res) (a b : Int) : (partL ys a b).length ≤ ys.length := by
  unfold partL
  split
  · rw [List.length_drop, List.length_take]; omega
  · simp
theorem aw_epE2 (a b : Int) : aggEq Tryz.prog 25 2 (fun j => [SV.i .i64 a, SV.i .i64 b].getD j default) 2 (fun j => [SV.i .i64 a, SV.i .i64 b].getD j default) = some true := by
  have : aggEq Tryz.prog 25 2 (fun j => [SV.i .i64 a, SV.i .i64 b].getD j default) 2 (fun j => [SV.i .i64 a, SV.i .i64 b].getD j default) = some ([a == a, b == b].all id) := by kernel_rfl
  rw [this]
  simp
theorem nodup_sub : ∀ {l m : List Res}, l.Nodup → (∀ r ∈ l, r ∈ m) → l.length ≤ m.length
  | [], m, _, _ => Nat.zero_le _
  | x :: l, m, h, hs => by
    have hx : x ∈ m := hs x (List.mem_cons_self ..)
    have h1 := nodup_sub (l := l) (m := m.erase x) (List.nodup_cons.1 h).2 fun r hr => by
      have hne : r ≠ x := fun e => by subst e; exact (List.nodup_cons.1 h).1 hr
      exact (List.mem_erase_of_ne hne).2 (hs r (List.mem_cons_of_mem _ hr))
    have h2 := List.length_erase_of_mem hx
    have h3 := List.length_pos_of_mem hx
    simp only [List.length_cons]
    omega
theorem ord_len {xs ys : List Res} (h : OrdOf xs ys) : ys.length ≤ xs.length := by
  have hnd : ys.Nodup := h.1.imp fun {a b} hab e => by rw [e, pthLt_irrefl] at hab; cases hab
  exact nodup_sub hnd fun r hr => ((h.2 r).1 hr).1
theorem ep_eq (l : List (Nat × Nat)) (i : Nat) : aggEq Tryz.prog 25 2 (epRd l i) 2 (epRd l i) = some true := by
  have h := aw_epE2 ((l.getD i (0, 0)).1 : Nat) ((l.getD i (0, 0)).2 : Nat)
  exact h
set_option maxRecDepth 100000 in
theorem latestC (F : Frm) (ad : Option Addr) (cap : Nat) (xs : List Res) (hl : xs.length ≤ 1000000) (hin : ∀ r ∈ xs, RgR r) :
    Contract F Tryz.prog 12 [.sl ad xs.length cap 17 (resRd xs.toArray)] (fun r => ∃ (a : Option Addr) (cap : Nat) (zs : List Res) (e : Int), LatRes xs zs e ∧ zs.length ≤ 1000000 ∧ r = tupL [.sl a zs.length cap 17 (resRd zs.toArray), .i .i64 e]) := by
  refine contract_of Tryz.func12 rfl (by kernel_rfl) ?_
  simp only [Tryz.ntmps12, argEnv]
  (repeat refine Sat.seq ?_)
  (refine Sat.region_k fun k hk => ?_; simp -implicitDefEqProofs only [evr, id, seval, res_one, res_ro, resRow, ep_one, ep_0, ep_1, epRow, res_eqr, evn]; refine hk _ ?_; clear hk k; try show Sat _ _ _ _ _)
  (repeat refine Sat.seq ?_)
  (refine Sat.region_k fun k hk => ?_; simp -implicitDefEqProofs only [evr, id, seval, res_one, res_ro, resRow, ep_one, ep_0, ep_1, epRow, res_eqr, evn])
  refine wcall_slice (cutC F ad cap xs (by omega) hin) rfl (by simp -implicitDefEqProofs only [evr, id, seval, res_one, res_ro, resRow, ep_one, ep_0, ep_1, epRow, res_eqr, evn]) ?_
  rintro r ⟨a, c, l, e, hc, hll, rfl⟩
  simp -implicitDefEqProofs only [evr, id, seval, res_one, res_ro, resRow, ep_one, ep_0, ep_1, epRow, res_eqr, evn]
  (refine hk _ ?_; clear hk k; try show Sat _ _ _ _ _)
  (repeat refine Sat.seq ?_)
  refine Sat.at ⟨27, [(17, .b (decide (e ≠ 0 ∨ l = []))), (5, .i .i64 e), (4, .sl a l.length c 2 (epRd l)), (3, .i .i64 0), (2, .sl none 0 0 0 (fun _ _ => .v undef)), (0, .sl ad xs.length cap 17 (resRd xs.toArray))], []⟩ ?_ ?_
  · (refine Sat.region_k fun k hk => ?_; simp -implicitDefEqProofs only [evr, id, seval, res_one, res_ro, resRow, ep_one, ep_0, ep_1, epRow, res_eqr, evn])
    refine ⟨fun h1 => ?_, fun h1 => ?_⟩
    · refine hk _ ?_
      have e1 : decide (e ≠ 0 ∨ l = []) = true := decide_eq_true (.inl (by simpa using h1))
      simp only [thenK, e1]
      simp -implicitDefEqProofs only [evr, id, seval, res_one, res_ro, resRow, ep_one, ep_0, ep_1, epRow, res_eqr, evl, evn]
    · refine hk _ ?_
      have e0 : e = 0 := by simpa using h1
      have e1 : decide (e ≠ 0 ∨ l = []) = ((l.length : Int) == 0) := by
        by_cases h2 : l = []
        · subst h2; rw [decide_eq_true (.inr rfl)]; rfl
        · rw [decide_eq_false (by rintro (h3 | h3); exact h3 e0; exact h2 h3)]
          have : 0 < l.length := List.length_pos_iff.2 h2
          rw [eq_comm, beq_eq_false_iff_ne]; omega
      simp only [thenK, e1]
      simp -implicitDefEqProofs only [evr, id, seval, res_one, res_ro, resRow, ep_one, ep_0, ep_1, epRow, res_eqr, evl, evn]
  simp only [thenK]
  (repeat refine Sat.seq ?_)
  refine Sat.cond_b rfl (fun h => ?_) (fun h => ?_)
  · have h1 := of_decide_eq_true h
    (repeat refine Sat.seq ?_)
    (refine Sat.region_k fun k hk => ?_; simp -implicitDefEqProofs only [evr, id, seval, res_one, res_ro, resRow, ep_one, ep_0, ep_1, epRow, res_eqr, evn]; refine hk _ ?_; clear hk k; try show Sat _ _ _ _ _)
    refine Sat.adopt 2 54 17 (resRd #[]) rfl ?_
    refine Sat.ret ?_
    simp only [thenK, Tryz.results12, evr, id, seval, res_one, res_ro, List.append_nil, Int.toNat_zero, Nat.sub_self, Int.reduceToNat, resRow, ep_one, ep_0, ep_1, epRow, res_eqr]
    exact ⟨none, 0, [], e, ⟨l, hc, .inl ⟨h1, rfl⟩⟩, by simp, rfl⟩
  · have h1 := of_decide_eq_false h
    have e0 : e = 0 := Classical.byContradiction fun h2 => h1 (.inl h2)
    have hne : l ≠ [] := fun h2 => h1 (.inr h2)
    have hpos : 0 < l.length := List.length_pos_iff.2 hne
    have e5 : IntKind.i64.wrap ((l.length : Int) - 1) = (l.length : Int) - 1 := w64 (by omega)
    refine Sat.skip ?_
    simp only [thenK]
    (repeat refine Sat.seq ?_)
    refine Sat.region_k fun k2 hk => ?_
    simp -implicitDefEqProofs only [evr, id, seval, res_one, res_ro, resRow, ep_one, ep_0, ep_1, epRow, res_eqr, e5, evn]
    refine ⟨by omega, ?_⟩
    rw [show ((l.length : Int) - 1).toNat = l.length - 1 by omega]
    refine wcall_new (partC F ad cap xs (by omega) hin ((l.getD (l.length - 1) (0, 0)).1 : Nat) ((l.getD (l.length - 1) (0, 0)).2 : Nat)) rfl (by simp -implicitDefEqProofs only [evr, id, seval, res_one, res_ro, resRow, ep_one, ep_0, ep_1, epRow, res_eqr, evn]; try rfl) ?_
    rintro ra2 ty len rc2 sz rrd ⟨a2, c2, ys, ho, e9⟩
    simp only [resRow, Own.row.injEq] at e9
    obtain ⟨rfl, rfl, rfl, rfl, rfl, rfl⟩ := e9
    simp -implicitDefEqProofs only [evr, id, seval, res_one, res_ro, resRow, ep_one, ep_0, ep_1, epRow, res_eqr, evn]
    refine hk _ ?_
    clear hk k2
    refine Sat.ret ?_
    simp only [thenK, Tryz.results12, evr, id, seval, res_one, res_ro, List.append_nil, Int.toNat_zero, Nat.sub_self, Int.reduceToNat, resRow, ep_one, ep_0, ep_1, epRow, res_eqr]
    refine ⟨ra2, rc2, _, 0, ⟨l, e0 ▸ hc, .inr ⟨rfl, hne, ys, ho, rfl⟩⟩, ?_, rfl⟩
    refine Nat.le_trans (partL_le ys _ _) (Nat.le_trans (ord_len ho) hl)
set_option maxRecDepth 100000 in
theorem latestG (F : Frm) (ad : Option Addr) (cap : Nat) (xs : List Res) (hl : xs.length ≤ 1000000) (hin : ∀ r ∈ xs, RgR r) :
    Contract F Tryz.prog 13 [.sl ad xs.length cap 17 (resRd xs.toArray)] (fun r => ∃ (a : Option Addr) (cap : Nat) (zs : List Res) (e : Int), LatRes xs zs e ∧ zs.length ≤ 1000000 ∧ r = tupL [.sl a zs.length cap 17 (resRd zs.toArray), .i .i64 e]) := by
  refine contract_of Tryz.func13 rfl (by kernel_rfl) ?_
  simp only [Tryz.ntmps13, argEnv]
  (repeat refine Sat.seq ?_)
  (refine Sat.region_k fun k hk => ?_; simp -implicitDefEqProofs only [evr, id, seval, res_one, res_ro, resRow, ep_one, ep_0, ep_1, epRow, res_eqr, evn]; refine hk _ ?_; clear hk k; try show Sat _ _ _ _ _)
  (repeat refine Sat.seq ?_)
  (refine Sat.region_k fun k hk => ?_; simp -implicitDefEqProofs only [evr, id, seval, res_one, res_ro, resRow, ep_one, ep_0, ep_1, epRow, res_eqr, evn])
  refine wcall_slice (cutG F ad cap xs (by omega) hin) rfl (by simp -implicitDefEqProofs only [evr, id, seval, res_one, res_ro, resRow, ep_one, ep_0, ep_1, epRow, res_eqr, evn]) ?_
  rintro r ⟨a, c, l, e, hc, hll, rfl⟩
  simp -implicitDefEqProofs only [evr, id, seval, res_one, res_ro, resRow, ep_one, ep_0, ep_1, epRow, res_eqr, evn]
  (refine hk _ ?_; clear hk k; try show Sat _ _ _ _ _)
  (repeat refine Sat.seq ?_)
  refine Sat.at ⟨27, [(17, .b (decide (e ≠ 0 ∨ l = []))), (5, .i .i64 e), (4, .sl a l.length c 2 (epRd l)), (3, .i .i64 0), (2, .sl none 0 0 0 (fun _ _ => .v undef)), (0, .sl ad xs.length cap 17 (resRd xs.toArray))], []⟩ ?_ ?_
  · (refine Sat.region_k fun k hk => ?_; simp -implicitDefEqProofs only [evr, id, seval, res_one, res_ro, resRow, ep_one, ep_0, ep_1, epRow, res_eqr, evn])
    refine ⟨fun h1 => ?_, fun h1 => ?_⟩
    · refine hk _ ?_
      have e1 : decide (e ≠ 0 ∨ l = []) = true := decide_eq_true (.inl (by simpa using h1))
      simp only [thenK, e1]
      simp -implicitDefEqProofs only [evr, id, seval, res_one, res_ro, resRow, ep_one, ep_0, ep_1, epRow, res_eqr, evl, evn]
    · refine hk _ ?_
      have e0 : e = 0 := by simpa using h1
      have e1 : decide (e ≠ 0 ∨ l = []) = ((l.length : Int) == 0) := by
        by_cases h2 : l = []
        · subst h2; rw [decide_eq_true (.inr rfl)]; rfl
        · rw [decide_eq_false (by rintro (h3 | h3); exact h3 e0; exact h2 h3)]
          have : 0 < l.length := List.length_pos_iff.2 h2
          rw [eq_comm, beq_eq_false_iff_ne]; omega
      simp only [thenK, e1]
      simp -implicitDefEqProofs only [evr, id, seval, res_one, res_ro, resRow, ep_one, ep_0, ep_1, epRow, res_eqr, evl, evn]
  simp only [thenK]
  (repeat refine Sat.seq ?_)
  refine Sat.cond_b rfl (fun h => ?_) (fun h => ?_)
  · have h1 := of_decide_eq_true h
    (repeat refine Sat.seq ?_)
    (refine Sat.region_k fun k hk => ?_; simp -implicitDefEqProofs only [evr, id, seval, res_one, res_ro, resRow, ep_one, ep_0, ep_1, epRow, res_eqr, evn]; refine hk _ ?_; clear hk k; try show Sat _ _ _ _ _)
    refine Sat.adopt 2 54 17 (resRd #[]) rfl ?_
    refine Sat.ret ?_
    simp only [thenK, Tryz.results13, evr, id, seval, res_one, res_ro, List.append_nil, Int.toNat_zero, Nat.sub_self, Int.reduceToNat, resRow, ep_one, ep_0, ep_1, epRow, res_eqr]
    exact ⟨none, 0, [], e, ⟨l, hc, .inl ⟨h1, rfl⟩⟩, by simp, rfl⟩
  · have h1 := of_decide_eq_false h
    have e0 : e = 0 := Classical.byContradiction fun h2 => h1 (.inl h2)
    have hne : l ≠ [] := fun h2 => h1 (.inr h2)
    have hpos : 0 < l.length := List.length_pos_iff.2 hne
    have e5 : IntKind.i64.wrap ((l.length : Int) - 1) = (l.length : Int) - 1 := w64 (by omega)
    refine Sat.skip ?_
    simp only [thenK]
    (repeat refine Sat.seq ?_)
    refine Sat.region_k fun k2 hk => ?_
    simp -implicitDefEqProofs only [evr, id, seval, res_one, res_ro, resRow, ep_one, ep_0, ep_1, epRow, res_eqr, e5, evn]
    refine ⟨by omega, ?_⟩
    rw [show ((l.length : Int) - 1).toNat = l.length - 1 by omega]
    refine wcall_new (partG F ad cap xs (by omega) hin ((l.getD (l.length - 1) (0, 0)).1 : Nat) ((l.getD (l.length - 1) (0, 0)).2 : Nat)) rfl (by simp -implicitDefEqProofs only [evr, id, seval, res_one, res_ro, resRow, ep_one, ep_0, ep_1, epRow, res_eqr, evn]; try rfl) ?_
    rintro ra2 ty len rc2 sz rrd ⟨a2, c2, ys, ho, e9⟩
    simp only [resRow, Own.row.injEq] at e9
    obtain ⟨rfl, rfl, rfl, rfl, rfl, rfl⟩ := e9
    simp -implicitDefEqProofs only [evr, id, seval, res_one, res_ro, resRow, ep_one, ep_0, ep_1, epRow, res_eqr, evn]
    refine hk _ ?_
    clear hk k2
    refine Sat.ret ?_
    simp only [thenK, Tryz.results13, evr, id, seval, res_one, res_ro, List.append_nil, Int.toNat_zero, Nat.sub_self, Int.reduceToNat, resRow, ep_one, ep_0, ep_1, epRow, res_eqr]
    refine ⟨ra2, rc2, _, 0, ⟨l, e0 ▸ hc, .inr ⟨rfl, hne, ys, ho, rfl⟩⟩, ?_, rfl⟩
    refine Nat.le_trans (partL_le ys _ _) (Nat.le_trans (ord_len ho) hl)
set_option maxRecDepth 100000 in
theorem sameEpG (F : Frm) (a a' : Option Addr) (cap cap' : Nat) (xs : List (Nat × Nat)) (hl : xs.length ≤ 1000000) :
    Contract F Tryz.prog 18 [.sl a xs.length cap 2 (epRd xs), .sl a' xs.length cap' 2 (epRd xs)] (fun r => r = .b true) := by
  refine contract_of Tryz.func18 rfl (by kernel_rfl) ?_
  simp only [Tryz.ntmps18, argEnv]
  (repeat refine Sat.seq ?_)
  (refine Sat.region_k fun k hk => ?_; simp -implicitDefEqProofs only [evr, id, seval, res_one, res_ro, resRow, ep_one, ep_0, ep_1, epRow, res_eqr, evn]; refine hk _ ?_; clear hk k; try show Sat _ _ _ _ _)
  (repeat refine Sat.seq ?_)
  (refine Sat.region_k fun k hk => ?_; simp -implicitDefEqProofs only [evr, id, seval, res_one, res_ro, resRow, ep_one, ep_0, ep_1, epRow, res_eqr, evn]; refine hk _ ?_; clear hk k; try show Sat _ _ _ _ _)
  first
    | refine Sat.cond_ff rfl ?_
    | refine Sat.cond_b rfl (fun h => absurd h (by simp)) (fun _ => ?_)
  refine Sat.skip ?_
  simp only [thenK]
  (repeat refine Sat.seq ?_)
  (refine Sat.region_k fun k hk => ?_; simp -implicitDefEqProofs only [evr, id, seval, res_one, res_ro, resRow, ep_one, ep_0, ep_1, epRow, res_eqr, evn]; refine hk _ ?_; clear hk k; try show Sat _ _ _ _ _)
  (repeat refine Sat.seq ?_)
  refine Sat.block ?_
  refine Sat.loop (ι := Nat) (fun i => ⟨26, [(5, .i .i64 i), (0, .sl a xs.length cap 2 (epRd xs)), (1, .sl a' xs.length cap' 2 (epRd xs))], []⟩)
    (fun i => i ≤ xs.length) (fun i => xs.length - i) 0 (Nat.zero_le _) (by simp -implicitDefEqProofs only [evr, id, seval, res_one, res_ro, resRow, ep_one, ep_0, ep_1, epRow, res_eqr, evl, evn]; try rfl) ?_
  intro i hi
  (repeat refine Sat.seq ?_)
  (refine Sat.region_k fun k hk => ?_; simp -implicitDefEqProofs only [evr, id, seval, res_one, res_ro, resRow, ep_one, ep_0, ep_1, epRow, res_eqr, evn]; refine hk _ ?_; clear hk k; try show Sat _ _ _ _ _)
  (repeat refine Sat.seq ?_)
  refine Sat.cond_b rfl (fun h => ?_) (fun h => ?_)
  · have h1 : i < xs.length := by simp only [decide_eq_true_eq] at h; omega
    have e2 : IntKind.i64.wrap ((i : Int) + 1) = ((i + 1 : Nat) : Int) := by rw [w64 (by omega)]; omega
    refine Sat.skip ?_
    simp only [thenK]
    (repeat refine Sat.seq ?_)
    refine Sat.block ?_
    (repeat refine Sat.seq ?_)
    refine Sat.region_qk (by kernel_rfl) (by kernel_rfl) fun k2 hk => ?_
    simp -implicitDefEqProofs only [evr, id, seval, res_one, res_ro, resRow, ep_one, ep_0, ep_1, epRow, res_eqr, ep_eq, evn]
    refine ⟨by omega, by omega, ?_⟩
    refine hk _ ?_
    clear hk k2
    try show Sat _ _ _ _ _
    refine Sat.cond_b rfl (fun h3 => by simp at h3) (fun _ => ?_)
    refine Sat.skip ?_
    simp only [thenK, blockK, reduceIte]
    (repeat refine Sat.seq ?_)
    refine Sat.region_k fun k2 hk => ?_
    simp -implicitDefEqProofs only [evr, id, seval, res_one, res_ro, resRow, ep_one, ep_0, ep_1, epRow, res_eqr, e2, evn]
    refine hk _ ?_
    simp only [thenK, blockK]
    refine ⟨i + 1, by omega, by omega, ?_⟩
    simp -implicitDefEqProofs only [evr, id, seval, res_one, res_ro, resRow, ep_one, ep_0, ep_1, epRow, res_eqr, evl, evn]
  · refine Sat.exit ?_
    simp only [thenK, blockK, reduceIte]
    (repeat refine Sat.seq ?_)
    (refine Sat.region_k fun k hk => ?_; simp -implicitDefEqProofs only [evr, id, seval, res_one, res_ro, resRow, ep_one, ep_0, ep_1, epRow, res_eqr, evn]; refine hk _ ?_; clear hk k; try show Sat _ _ _ _ _)
    refine Sat.ret ?_
    simp only [Tryz.results18, evr, id, seval, res_one, res_ro, List.append_nil, Int.toNat_zero, Nat.sub_self, Int.reduceToNat, resRow, ep_one, ep_0, ep_1, epRow, res_eqr]
set_option maxRecDepth 100000 in
theorem sameResG (F : Frm) (a a' : Option Addr) (cap cap' : Nat) (xs : List Res) (hl : xs.length ≤ 1000000) :
    Contract F Tryz.prog 19 [.sl a xs.length cap 17 (resRd xs.toArray), .sl a' xs.length cap' 17 (resRd xs.toArray)] (fun r => r = .b true) := by
  refine contract_of Tryz.func19 rfl (by kernel_rfl) ?_
  simp only [Tryz.ntmps19, argEnv]
  (repeat refine Sat.seq ?_)
  (refine Sat.region_k fun k hk => ?_; simp -implicitDefEqProofs only [evr, id, seval, res_one, res_ro, resRow, ep_one, ep_0, ep_1, epRow, res_eqr, evn]; refine hk _ ?_; clear hk k; try show Sat _ _ _ _ _)
  (repeat refine Sat.seq ?_)
  (refine Sat.region_k fun k hk => ?_; simp -implicitDefEqProofs only [evr, id, seval, res_one, res_ro, resRow, ep_one, ep_0, ep_1, epRow, res_eqr, evn]; refine hk _ ?_; clear hk k; try show Sat _ _ _ _ _)
  first
    | refine Sat.cond_ff rfl ?_
    | refine Sat.cond_b rfl (fun h => absurd h (by simp)) (fun _ => ?_)
  refine Sat.skip ?_
  simp only [thenK]
  (repeat refine Sat.seq ?_)
  (refine Sat.region_k fun k hk => ?_; simp -implicitDefEqProofs only [evr, id, seval, res_one, res_ro, resRow, ep_one, ep_0, ep_1, epRow, res_eqr, evn]; refine hk _ ?_; clear hk k; try show Sat _ _ _ _ _)
  (repeat refine Sat.seq ?_)
  refine Sat.block ?_
  refine Sat.loop (ι := Nat) (fun i => ⟨26, [(5, .i .i64 i), (0, .sl a xs.length cap 17 (resRd xs.toArray)), (1, .sl a' xs.length cap' 17 (resRd xs.toArray))], []⟩)
    (fun i => i ≤ xs.length) (fun i => xs.length - i) 0 (Nat.zero_le _) (by simp -implicitDefEqProofs only [evr, id, seval, res_one, res_ro, resRow, ep_one, ep_0, ep_1, epRow, res_eqr, evl, evn]; try rfl) ?_
  intro i hi
  (repeat refine Sat.seq ?_)
  (refine Sat.region_k fun k hk => ?_; simp -implicitDefEqProofs only [evr, id, seval, res_one, res_ro, resRow, ep_one, ep_0, ep_1, epRow, res_eqr, evn]; refine hk _ ?_; clear hk k; try show Sat _ _ _ _ _)
  (repeat refine Sat.seq ?_)
  refine Sat.cond_b rfl (fun h => ?_) (fun h => ?_)
  · have h1 : i < xs.length := by simp only [decide_eq_true_eq] at h; omega
    have e2 : IntKind.i64.wrap ((i : Int) + 1) = ((i + 1 : Nat) : Int) := by rw [w64 (by omega)]; omega
    refine Sat.skip ?_
    simp only [thenK]
    (repeat refine Sat.seq ?_)
    refine Sat.block ?_
    (repeat refine Sat.seq ?_)
    refine Sat.region_qk (by kernel_rfl) (by kernel_rfl) fun k2 hk => ?_
    simp -implicitDefEqProofs only [evr, id, seval, res_one, res_ro, resRow, ep_one, ep_0, ep_1, epRow, res_eqr, ep_eq, evn]
    refine ⟨by omega, by omega, ?_⟩
    refine hk _ ?_
    clear hk k2
    try show Sat _ _ _ _ _
    refine Sat.cond_b rfl (fun h3 => by simp at h3) (fun _ => ?_)
    refine Sat.skip ?_
    simp only [thenK, blockK, reduceIte]
    (repeat refine Sat.seq ?_)
    refine Sat.region_k fun k2 hk => ?_
    simp -implicitDefEqProofs only [evr, id, seval, res_one, res_ro, resRow, ep_one, ep_0, ep_1, epRow, res_eqr, e2, evn]
    refine hk _ ?_
    simp only [thenK, blockK]
    refine ⟨i + 1, by omega, by omega, ?_⟩
    simp -implicitDefEqProofs only [evr, id, seval, res_one, res_ro, resRow, ep_one, ep_0, ep_1, epRow, res_eqr, evl, evn]
  · refine Sat.exit ?_
    simp only [thenK, blockK, reduceIte]
    (repeat refine Sat.seq ?_)
    (refine Sat.region_k fun k hk => ?_; simp -implicitDefEqProofs only [evr, id, seval, res_one, res_ro, resRow, ep_one, ep_0, ep_1, epRow, res_eqr, evn]; refine hk _ ?_; clear hk k; try show Sat _ _ _ _ _)
    refine Sat.ret ?_
    simp only [Tryz.results19, evr, id, seval, res_one, res_ro, List.append_nil, Int.toNat_zero, Nat.sub_self, Int.reduceToNat, resRow, ep_one, ep_0, ep_1, epRow, res_eqr]
end Go.Proofs.YtkpmihaaijiihaaGreat

/- Choices of results, by the evaluator. -/
set_option linter.unusedSimpArgs false
set_option linter.unusedVariables false
namespace Go.Proofs.YtkpmihaaijiihaaGreat
open Go.Sort Eng
theorem plain_intU (r : SV) (h : ∃ x : Int, r = .i .i64 x) : ∀ R w, r.ok R w := by
  obtain ⟨x, rfl⟩ := h; exact ok_plain rfl
def u32 (x : Int) : Prop := 0 ≤ x ∧ x < 4294967296
theorem u32_wrap (x : Int) : u32 (IntKind.u32.wrap x) := by
  simp only [u32, IntKind.wrap, IntKind.signed, IntKind.bits, Bool.false_and, Bool.false_eq_true, if_false]
  omega
theorem u32_keep {x : Int} (h : u32 x) : IntKind.i64.wrap x = x := by
  unfold u32 at h
  exact w64 (by omega)
def wfR (x : Res) : Prop := u32 x.dst ∧ u32 x.from_
theorem plain_addrU (r : SV) (h : ∃ x : Int, r = .i .u32 x ∧ u32 x) : ∀ R w, r.ok R w := by
  obtain ⟨x, rfl, _⟩ := h; exact ok_plain rfl
theorem plain_nextU {n : Int} (r : SV) (h : ∃ x : Int, r = .i .i64 x ∧ 0 ≤ x ∧ (x < n ∨ x = 0)) : ∀ R w, r.ok R w := by
  obtain ⟨x, rfl, _⟩ := h; exact ok_plain rfl
theorem ints_at (xs : List Int) (i : Nat) (h : i < xs.length) : rdL (xs.map (SV.i .i64)) 1 i 0 = .i .i64 (xs.getD i 0) := by simp [rdL, List.getD, h]
set_option maxRecDepth 100000 in
theorem addressRC (cb : Nat) : Contract (Frm.codes cb) Tryz.prog 51 [ptr cb] (fun r => ∃ x : Int, r = .i .u32 x ∧ u32 x) := by
  refine contract_of Tryz.func51 rfl (by kernel_rfl) ?_
  simp only [Tryz.ntmps51, argEnv, ptr]
  (repeat refine Sat.seq ?_)
  (refine Sat.region_k fun k hk => ?_; simp -implicitDefEqProofs only [evr, id, seval, ptr, res_one, resRow, evn]; refine hk _ ?_; clear hk k; try show Sat _ _ _ _ _)
  (repeat refine Sat.seq ?_)
  (refine Sat.region_k fun k hk => ?_; simp -implicitDefEqProofs only [evr, id, seval, ptr, res_one, resRow, evn])
  refine wcall_plain (nextC cb 12 (by decide) (by decide)) rfl plain_nextU ?_
  rintro r ⟨x1, rfl, _⟩
  simp -implicitDefEqProofs only [evr, id, seval, ptr, res_one, resRow, evn]
  (refine hk _ ?_; clear hk k; try show Sat _ _ _ _ _)
  (repeat refine Sat.seq ?_)
  refine Sat.cond_b rfl (fun _ => ?_) (fun _ => ?_)
  · (repeat refine Sat.seq ?_)
    (refine Sat.region_k fun k hk => ?_; simp -implicitDefEqProofs only [evr, id, seval, ptr, res_one, resRow, evn])
    refine wcall_plain (nextC cb 65536 (by decide) (by decide)) rfl plain_nextU ?_
    rintro r ⟨x2, rfl, _⟩
    simp -implicitDefEqProofs only [evr, id, reduceCtorEq, reduceIte, Nat.reduceMul, Nat.reduceAdd, Nat.reduceLT, Nat.reduceLeDiff, Nat.reduceEqDiff, Int.reduceLT, Int.reduceBEq, Int.reduceBNe, Nat.reduceBEq, ptr, res_one, resRow, evn]
    refine ⟨by decide, ?_⟩
    refine wcall_plain (nextC cb 65536 (by decide) (by decide)) rfl plain_nextU ?_
    rintro r ⟨x3, rfl, _⟩
    simp -implicitDefEqProofs only [evr, id, seval, ptr, res_one, resRow, evn]
    (refine hk _ ?_; clear hk k; try show Sat _ _ _ _ _)
    refine Sat.ret ?_
    simp only [Tryz.results51, evr, id, reduceCtorEq, reduceIte, Nat.reduceMul, Nat.reduceAdd, Nat.reduceLT, Nat.reduceLeDiff, Nat.reduceEqDiff, Int.reduceLT, Int.reduceBEq, Int.reduceBNe, Nat.reduceBEq, ptr, List.append_nil, Int.toNat_zero, Nat.sub_self, res_one, resRow]
    exact ⟨_, rfl, u32_wrap _⟩
  · refine Sat.skip ?_
    simp only [thenK]
    (repeat refine Sat.seq ?_)
    (refine Sat.region_k fun k hk => ?_; simp -implicitDefEqProofs only [evr, id, seval, ptr, res_one, resRow, evn])
    refine wcall_plain (nextC cb 3 (by decide) (by decide)) rfl plain_nextU ?_
    rintro r ⟨x2, rfl, _⟩
    simp -implicitDefEqProofs only [evr, id, reduceCtorEq, reduceIte, Nat.reduceMul, Nat.reduceAdd, Nat.reduceLT, Nat.reduceLeDiff, Nat.reduceEqDiff, Int.reduceLT, Int.reduceBEq, Int.reduceBNe, Nat.reduceBEq, ptr, res_one, resRow, evn]
    refine ⟨by decide, ?_⟩
    refine wcall_plain (nextC cb 8 (by decide) (by decide)) rfl plain_nextU ?_
    rintro r ⟨x3, rfl, _⟩
    simp -implicitDefEqProofs only [evr, id, seval, ptr, res_one, resRow, evn]
    (refine hk _ ?_; clear hk k; try show Sat _ _ _ _ _)
    refine Sat.ret ?_
    simp only [Tryz.results51, evr, id, reduceCtorEq, reduceIte, Nat.reduceMul, Nat.reduceAdd, Nat.reduceLT, Nat.reduceLeDiff, Nat.reduceEqDiff, Int.reduceLT, Int.reduceBEq, Int.reduceBNe, Nat.reduceBEq, ptr, List.append_nil, Int.toNat_zero, Nat.sub_self, res_one, resRow]
    exact ⟨_, rfl, u32_wrap _⟩
set_option maxRecDepth 100000 in
theorem protoRC (cb : Nat) : Contract (Frm.codes cb) Tryz.prog 52 [ptr cb] (fun r => ∃ x : Int, r = .i .i64 x) := by
  refine contract_of Tryz.func52 rfl (by kernel_rfl) ?_
  simp only [Tryz.ntmps52, argEnv, ptr]
  (repeat refine Sat.seq ?_)
  (refine Sat.region_k fun k hk => ?_; simp -implicitDefEqProofs only [evr, id, seval, ptr, res_one, resRow, evn]; refine hk _ ?_; clear hk k; try show Sat _ _ _ _ _)
  (repeat refine Sat.seq ?_)
  (refine Sat.region_k fun k hk => ?_; simp -implicitDefEqProofs only [evr, id, seval, ptr, res_one, resRow, evn])
  intro blk
  refine wcall_plain (nextC cb 3 (by decide) (by decide)) rfl plain_nextU ?_
  rintro r ⟨x, rfl, hx0, hx1⟩
  obtain ⟨i, rfl⟩ := Int.eq_ofNat_of_zero_le hx0
  have e := ints_at [17, 1, 6] i (by show i < 3; omega)
  simp only [List.map_cons, List.map_nil] at e
  simp -implicitDefEqProofs only [evr, id, seval, ptr, res_one, resRow, e, evn]
  refine ⟨by omega, by omega, ?_⟩
  (refine hk _ ?_; clear hk k; try show Sat _ _ _ _ _)
  refine Sat.ret ?_
  simp only [Tryz.results52, evr, id, reduceCtorEq, reduceIte, Nat.reduceMul, Nat.reduceAdd, Nat.reduceLT, Nat.reduceLeDiff, Nat.reduceEqDiff, Int.reduceLT, Int.reduceBEq, Int.reduceBNe, Nat.reduceBEq, ptr, List.append_nil, Int.toNat_zero, Nat.sub_self, res_one, resRow]
  exact ⟨_, rfl⟩
set_option maxRecDepth 100000 in
theorem intRC (cb : Nat) : Contract (Frm.codes cb) Tryz.prog 53 [ptr cb] (fun r => ∃ x : Int, r = .i .i64 x) := by
  refine contract_of Tryz.func53 rfl (by kernel_rfl) ?_
  simp only [Tryz.ntmps53, argEnv, ptr]
  (repeat refine Sat.seq ?_)
  (refine Sat.region_k fun k hk => ?_; simp -implicitDefEqProofs only [evr, id, seval, ptr, res_one, resRow, evn]; refine hk _ ?_; clear hk k; try show Sat _ _ _ _ _)
  (repeat refine Sat.seq ?_)
  (refine Sat.region_k fun k hk => ?_; simp -implicitDefEqProofs only [evr, id, seval, ptr, res_one, resRow, evn])
  refine wcall_plain (nextC cb 10 (by decide) (by decide)) rfl plain_nextU ?_
  rintro r ⟨x1, rfl, _⟩
  simp -implicitDefEqProofs only [evr, id, seval, ptr, res_one, resRow, evn]
  (refine hk _ ?_; clear hk k; try show Sat _ _ _ _ _)
  (repeat refine Sat.seq ?_)
  refine Sat.block ?_
  (repeat refine Sat.seq ?_)
  (refine Sat.region_k fun k hk => ?_; simp -implicitDefEqProofs only [evr, id, seval, ptr, res_one, resRow, evn]; refine hk _ ?_; clear hk k; try show Sat _ _ _ _ _)
  (repeat refine Sat.seq ?_)
  refine Sat.cond_b rfl (fun _ => ?_) (fun _ => ?_)
  · (repeat refine Sat.seq ?_)
    (refine Sat.region_k fun k hk => ?_; simp -implicitDefEqProofs only [evr, id, seval, ptr, res_one, resRow, evn])
    refine wcall_plain (nextC cb 3 (by decide) (by decide)) rfl plain_nextU ?_
    rintro r ⟨x2, rfl, _⟩
    simp -implicitDefEqProofs only [evr, id, seval, ptr, res_one, resRow, evn]
    (refine hk _ ?_; clear hk k; try show Sat _ _ _ _ _)
    refine Sat.ret ?_
    simp only [blockK, Tryz.results53, evr, id, reduceCtorEq, reduceIte, Nat.reduceMul, Nat.reduceAdd, Nat.reduceLT, Nat.reduceLeDiff, Nat.reduceEqDiff, Int.reduceLT, Int.reduceBEq, Int.reduceBNe, Nat.reduceBEq, ptr, List.append_nil, Int.toNat_zero, Nat.sub_self, res_one, resRow]
    exact ⟨_, rfl⟩
  · (repeat refine Sat.seq ?_)
    (refine Sat.region_k fun k hk => ?_; simp -implicitDefEqProofs only [evr, id, seval, ptr, res_one, resRow, evn]; refine hk _ ?_; clear hk k; try show Sat _ _ _ _ _)
    refine Sat.cond_b rfl (fun _ => ?_) (fun _ => ?_)
    · (repeat refine Sat.seq ?_)
      (refine Sat.region_k fun k hk => ?_; simp -implicitDefEqProofs only [evr, id, seval, ptr, res_one, resRow, evn])
      intro blk
      refine wcall_plain (nextC cb 14 (by decide) (by decide)) rfl plain_nextU ?_
      rintro r ⟨x, rfl, hx0, hx1⟩
      obtain ⟨i, rfl⟩ := Int.eq_ofNat_of_zero_le hx0
      have e := ints_at [9223372036854775807, -9223372036854775808, 1125899906842624, 1125899906842625, 65535, 65536, 255, 256, 1023, 1024, 65534, 65535, 4294967296, 4611686018427387905] i (by show i < 14; omega)
      simp only [List.map_cons, List.map_nil] at e
      simp -implicitDefEqProofs only [evr, id, seval, ptr, res_one, resRow, e, evn]
      refine ⟨by omega, by omega, ?_⟩
      (refine hk _ ?_; clear hk k; try show Sat _ _ _ _ _)
      refine Sat.ret ?_
      simp only [blockK, Tryz.results53, evr, id, reduceCtorEq, reduceIte, Nat.reduceMul, Nat.reduceAdd, Nat.reduceLT, Nat.reduceLeDiff, Nat.reduceEqDiff, Int.reduceLT, Int.reduceBEq, Int.reduceBNe, Nat.reduceBEq, ptr, List.append_nil, Int.toNat_zero, Nat.sub_self, res_one, resRow]
      exact ⟨_, rfl⟩
    · (repeat refine Sat.seq ?_)
      (refine Sat.region_k fun k hk => ?_; simp -implicitDefEqProofs only [evr, id, seval, ptr, res_one, resRow, evn]; refine hk _ ?_; clear hk k; try show Sat _ _ _ _ _)
      refine Sat.cond_b rfl (fun _ => ?_) (fun _ => ?_)
      · (repeat refine Sat.seq ?_)
        (refine Sat.region_k fun k hk => ?_; simp -implicitDefEqProofs only [evr, id, seval, ptr, res_one, resRow, evn])
        refine wcall_plain (nextC cb 256 (by decide) (by decide)) rfl plain_nextU ?_
        rintro r ⟨x2, rfl, _⟩
        simp -implicitDefEqProofs only [evr, id, seval, ptr, res_one, resRow, evn]
        refine wcall_plain (nextC cb 256 (by decide) (by decide)) rfl plain_nextU ?_
        rintro r ⟨x3, rfl, _⟩
        simp -implicitDefEqProofs only [evr, id, seval, ptr, res_one, resRow, evn]
        (refine hk _ ?_; clear hk k; try show Sat _ _ _ _ _)
        refine Sat.ret ?_
        simp only [blockK, Tryz.results53, evr, id, reduceCtorEq, reduceIte, Nat.reduceMul, Nat.reduceAdd, Nat.reduceLT, Nat.reduceLeDiff, Nat.reduceEqDiff, Int.reduceLT, Int.reduceBEq, Int.reduceBNe, Nat.reduceBEq, ptr, List.append_nil, Int.toNat_zero, Nat.sub_self, res_one, resRow]
        exact ⟨_, rfl⟩
      · refine Sat.skip ?_
        simp only [thenK, blockK]
        (repeat refine Sat.seq ?_)
        (refine Sat.region_k fun k hk => ?_; simp -implicitDefEqProofs only [evr, id, seval, ptr, res_one, resRow, evn])
        refine wcall_plain (nextC cb 40 (by decide) (by decide)) rfl plain_nextU ?_
        rintro r ⟨x2, rfl, _⟩
        simp -implicitDefEqProofs only [evr, id, seval, ptr, res_one, resRow, evn]
        (refine hk _ ?_; clear hk k; try show Sat _ _ _ _ _)
        refine Sat.ret ?_
        simp only [Tryz.results53, evr, id, reduceCtorEq, reduceIte, Nat.reduceMul, Nat.reduceAdd, Nat.reduceLT, Nat.reduceLeDiff, Nat.reduceEqDiff, Int.reduceLT, Int.reduceBEq, Int.reduceBNe, Nat.reduceBEq, ptr, List.append_nil, Int.toNat_zero, Nat.sub_self, res_one, resRow]
        exact ⟨_, rfl⟩
end Go.Proofs.YtkpmihaaijiihaaGreat

/- Choices of results, by the evaluator: Result, Results. -/
set_option linter.unusedSimpArgs false
set_option linter.unusedVariables false
namespace Go.Proofs.YtkpmihaaijiihaaGreat
open Go.Sort Eng
def rsOwn (blk2 blk3 : Nat) (x : Res) : List Eng.Own := [.box blk2 54 (Res.cs default), .box blk3 54 (Res.cs x)]
set_option maxRecDepth 100000 in
theorem resultC (cb : Nat) : Contract (Frm.codes cb) Tryz.prog 31 [ptr cb] (fun r => ∃ x : Res, r = resAg x ∧ wfR x) := by
  refine contract_of Tryz.func31 rfl (by kernel_rfl) ?_
  simp only [Tryz.ntmps31, argEnv, ptr]
  (repeat refine Sat.seq ?_)
  (refine Sat.region_k fun k hk => ?_; simp -implicitDefEqProofs only [evr, id, seval, ptr, res_one, resRow, res_ro, evn])
  intro blk2
  (refine hk _ ?_; clear hk k; try show Sat _ _ _ _ _)
  (repeat refine Sat.seq ?_)
  (refine Sat.region_k fun k hk => ?_; simp -implicitDefEqProofs only [evr, id, seval, ptr, res_one, resRow, res_ro, evn])
  refine wcall_plain (nextC cb 2 (by decide) (by decide)) rfl plain_nextU ?_
  rintro r ⟨x1, rfl, _⟩
  simp -implicitDefEqProofs only [evr, id, seval, ptr, res_one, resRow, res_ro, evn]
  refine wcall_plain (nextC cb 2 (by decide) (by decide)) rfl plain_nextU ?_
  rintro r ⟨x2, rfl, _⟩
  simp -implicitDefEqProofs only [evr, id, seval, ptr, res_one, resRow, res_ro, evn]
  refine wcall_plain (nextC cb 4 (by decide) (by decide)) rfl plain_nextU ?_
  rintro r ⟨x3, rfl, _⟩
  simp -implicitDefEqProofs only [evr, id, seval, ptr, res_one, resRow, res_ro, evn]
  refine wcall_plain (nextC cb 50 (by decide) (by decide)) rfl plain_nextU ?_
  rintro r ⟨x4, rfl, _⟩
  simp -implicitDefEqProofs only [evr, id, seval, ptr, res_one, resRow, res_ro, evn]
  refine wcall_plain (addressRC cb) rfl plain_addrU ?_
  rintro r ⟨x5, rfl, hx5⟩
  simp -implicitDefEqProofs only [evr, id, seval, ptr, res_one, resRow, res_ro, evn]
  refine wcall_plain (protoRC cb) rfl plain_intU ?_
  rintro r ⟨x6, rfl⟩
  simp -implicitDefEqProofs only [evr, id, seval, ptr, res_one, resRow, res_ro, evn]
  refine wcall_plain (nextC cb 3 (by decide) (by decide)) rfl plain_nextU ?_
  rintro r ⟨x7, rfl, _⟩
  simp -implicitDefEqProofs only [evr, id, seval, ptr, res_one, resRow, res_ro, evn]
  refine wcall_plain (nextC cb 4 (by decide) (by decide)) rfl plain_nextU ?_
  rintro r ⟨x8, rfl, _⟩
  simp -implicitDefEqProofs only [evr, id, seval, ptr, res_one, resRow, res_ro, evn]
  generalize IntKind.i64.wrap (1 + x8) = y8
  intro blk3
  (refine hk _ ?_; clear hk k; try show Sat _ _ _ _ _)
  (repeat refine Sat.seq ?_)
  (refine Sat.region_rows [⟨0, 23, 8, 0⟩, ⟨1, 24, 4194304, 1⟩, ⟨0, 25, 1, 0⟩, ⟨4, 26, 16777216, 2⟩, ⟨10, 27, 41943040, 0⟩, ⟨31, 28, 8, 0⟩, ⟨63, 0, 201326592, 2⟩] [0, 2, 1] [(3, false), (4, false), (5, false), (6, false)] [3] (by kernel_rfl) (by kernel_rfl) (fun _ _ h => h) fun k hk => ?_; simp only [List.map_cons, List.map_nil, List.getD_cons_zero, List.getD_cons_succ, btseq_cons, btseq_free, btseq_nil]; simp -implicitDefEqProofs only [evr, id, seval, ptr, res_one, resRow, res_ro, evn])
  refine wcall_plain (nextC cb 30 (by decide) (by decide)) rfl plain_nextU ?_
  rintro r ⟨x9, rfl, _⟩
  simp -implicitDefEqProofs only [evr, id, seval, ptr, res_one, resRow, res_ro, evn]
  generalize IntKind.i64.wrap (x4 + x9) = y9
  (refine hk _ ?_; clear hk k; try show Sat _ _ _ _ _)
  (repeat refine Sat.seq ?_)
  (refine Sat.region_k fun k hk => ?_; simp -implicitDefEqProofs only [evr, id, seval, ptr, res_one, resRow, res_ro, evn])
  refine wcall_plain (nextC cb 3 (by decide) (by decide)) rfl plain_nextU ?_
  rintro r ⟨x10, rfl, _⟩
  simp -implicitDefEqProofs only [evr, id, seval, ptr, res_one, resRow, res_ro, evn]
  (refine hk _ ?_; clear hk k; try show Sat _ _ _ _ _)
  refine Sat.atF (ι := Res) (fun x => ⟨96, [(0, ptr cb), (2, .op 0 blk2 0), (3, .op 1 blk3 0)], rsOwn blk2 blk3 x⟩) (fun x => wfR x) ?_ ?_
  · refine Sat.cond_b rfl (fun _ => ?_) (fun _ => ?_)
    · (repeat refine Sat.seq ?_)
      (refine Sat.region_k fun k hk => ?_; simp -implicitDefEqProofs only [evr, id, seval, ptr, res_one, resRow, res_ro, evn])
      refine wcall_plain (nextC cb 6 (by decide) (by decide)) rfl plain_nextU ?_
      rintro r ⟨x11, rfl, _⟩
      simp -implicitDefEqProofs only [evr, id, seval, ptr, res_one, resRow, res_ro, evn]
      (refine hk _ ?_; clear hk k; try show Sat _ _ _ _ _)
      refine Sat.boxBools 1 rfl ?_
      simp -implicitDefEqProofs only [evr, id, seval, ptr, res_one, resRow, res_ro, evn]
      (refine Sat.region_k fun k hk => ?_; simp -implicitDefEqProofs only [evr, id, seval, ptr, res_one, resRow, res_ro, evn])
      refine wcall_plain (addressRC cb) rfl plain_addrU ?_
      rintro r ⟨z1, rfl, hz1⟩
      simp -implicitDefEqProofs only [evr, id, seval, ptr, res_one, resRow, res_ro, evn]
      refine wcall_plain (nextC cb 5 (by decide) (by decide)) rfl plain_nextU ?_
      rintro r ⟨z2, rfl, _⟩
      simp -implicitDefEqProofs only [evr, id, seval, ptr, res_one, resRow, res_ro, evn]
      refine wcall_plain (nextC cb 4 (by decide) (by decide)) rfl plain_nextU ?_
      rintro r ⟨z3, rfl, _⟩
      simp -implicitDefEqProofs only [evr, id, seval, ptr, res_one, resRow, res_ro, evn]
      refine wcall_plain (nextC cb 5 (by decide) (by decide)) rfl plain_nextU ?_
      rintro r ⟨z4, rfl, _⟩
      simp -implicitDefEqProofs only [evr, id, seval, ptr, res_one, resRow, res_ro, evn]
      refine wcall_plain (nextC cb 300 (by decide) (by decide)) rfl plain_nextU ?_
      rintro r ⟨z5, rfl, _⟩
      simp -implicitDefEqProofs only [evr, id, seval, ptr, res_one, resRow, res_ro, evn]
      refine wcall_plain (nextC cb 2 (by decide) (by decide)) rfl plain_nextU ?_
      rintro r ⟨z6, rfl, _⟩
      simp -implicitDefEqProofs only [evr, id, seval, ptr, res_one, resRow, res_ro, evn]
      (refine hk _ ?_; clear hk k; try show Sat _ _ _ _ _)
      simp only [thenK]
      exact ⟨⟨_, _, _, _, x5, _, _, _, _, _, _, z1, _, _, _, _, _⟩, ⟨hx5, hz1⟩, rfl, ⟨.inl rfl, .inl rfl, .inl rfl, trivial⟩, ⟨rfl, rfl, rfl⟩, ⟨rfl, rfl, rfl⟩, trivial⟩
    · refine Sat.skip ?_
      simp only [thenK]
      exact ⟨⟨_, _, _, _, x5, _, _, _, _, _, _, _, _, _, _, _, _⟩, ⟨hx5, (⟨by decide, by decide⟩ : u32 0)⟩, rfl, ⟨.inl rfl, .inl rfl, .inl rfl, trivial⟩, ⟨rfl, rfl, rfl⟩, ⟨rfl, rfl, rfl⟩, trivial⟩
  rintro x hx
  simp only [thenK, rsOwn, Res.cs, ptr]
  (repeat refine Sat.seq ?_)
  (refine Sat.region_k fun k hk => ?_; simp -implicitDefEqProofs only [evr, id, seval, ptr, res_one, resRow, res_ro, evn])
  refine wcall_plain (nextC cb 16 (by decide) (by decide)) rfl plain_nextU ?_
  rintro r ⟨x12, rfl, _⟩
  simp -implicitDefEqProofs only [evr, id, seval, ptr, res_one, resRow, res_ro, evn]
  (refine hk _ ?_; clear hk k; try show Sat _ _ _ _ _)
  (repeat refine Sat.seq ?_)
  refine Sat.atF (ι := Res) (fun x => ⟨96, [(0, ptr cb), (2, .op 0 blk2 0), (3, .op 1 blk3 0)], rsOwn blk2 blk3 x⟩) (fun x => wfR x) ?_ ?_
  · refine Sat.block ?_
    (repeat refine Sat.seq ?_)
    (refine Sat.region_k fun k hk => ?_; simp -implicitDefEqProofs only [evr, id, seval, ptr, res_one, resRow, res_ro, evn]; refine hk _ ?_; clear hk k; try show Sat _ _ _ _ _)
    refine Sat.cond_b rfl (fun _ => ?_) (fun _ => ?_)
    · (refine Sat.region_k fun k hk => ?_; simp -implicitDefEqProofs only [evr, id, seval, ptr, res_one, resRow, res_ro, evn])
      refine wcall_plain (intRC cb) rfl plain_intU ?_
      rintro r ⟨w0, rfl⟩
      simp -implicitDefEqProofs only [evr, id, seval, ptr, res_one, resRow, res_ro, evn]
      refine wcall_plain (intRC cb) rfl plain_intU ?_
      rintro r ⟨w1, rfl⟩
      simp -implicitDefEqProofs only [evr, id, seval, ptr, res_one, resRow, res_ro, evn]
      (refine hk _ ?_; clear hk k; try show Sat _ _ _ _ _)
      simp only [thenK, blockK]
      exact ⟨{ x with at_ := w0, back := w1 }, ⟨hx.1, hx.2⟩, rfl, ⟨.inl rfl, .inl rfl, .inl rfl, trivial⟩, ⟨rfl, rfl, rfl⟩, ⟨rfl, rfl, rfl⟩, trivial⟩
    · (repeat refine Sat.seq ?_)
      (refine Sat.region_k fun k hk => ?_; simp -implicitDefEqProofs only [evr, id, seval, ptr, res_one, resRow, res_ro, evn]; refine hk _ ?_; clear hk k; try show Sat _ _ _ _ _)
      refine Sat.cond_b rfl (fun _ => ?_) (fun _ => ?_)
      · (refine Sat.region_k fun k hk => ?_; simp -implicitDefEqProofs only [evr, id, seval, ptr, res_one, resRow, res_ro, evn])
        refine wcall_plain (intRC cb) rfl plain_intU ?_
        rintro r ⟨w0, rfl⟩
        simp -implicitDefEqProofs only [evr, id, seval, ptr, res_one, resRow, res_ro, evn]
        refine wcall_plain (intRC cb) rfl plain_intU ?_
        rintro r ⟨w1, rfl⟩
        simp -implicitDefEqProofs only [evr, id, seval, ptr, res_one, resRow, res_ro, evn]
        refine wcall_plain (intRC cb) rfl plain_intU ?_
        rintro r ⟨w2, rfl⟩
        simp -implicitDefEqProofs only [evr, id, seval, ptr, res_one, resRow, res_ro, evn]
        (refine hk _ ?_; clear hk k; try show Sat _ _ _ _ _)
        simp only [thenK, blockK]
        exact ⟨{ x with flow := w0, ttl := w1, proto := w2 }, ⟨hx.1, hx.2⟩, rfl, ⟨.inl rfl, .inl rfl, .inl rfl, trivial⟩, ⟨rfl, rfl, rfl⟩, ⟨rfl, rfl, rfl⟩, trivial⟩
      · (repeat refine Sat.seq ?_)
        (refine Sat.region_k fun k hk => ?_; simp -implicitDefEqProofs only [evr, id, seval, ptr, res_one, resRow, res_ro, evn]; refine hk _ ?_; clear hk k; try show Sat _ _ _ _ _)
        refine Sat.cond_b rfl (fun _ => ?_) (fun _ => ?_)
        · (refine Sat.region_k fun k hk => ?_; simp -implicitDefEqProofs only [evr, id, seval, ptr, res_one, resRow, res_ro, evn])
          refine wcall_plain (intRC cb) rfl plain_intU ?_
          rintro r ⟨w0, rfl⟩
          simp -implicitDefEqProofs only [evr, id, seval, ptr, res_one, resRow, res_ro, evn]
          refine wcall_plain (intRC cb) rfl plain_intU ?_
          rintro r ⟨w1, rfl⟩
          simp -implicitDefEqProofs only [evr, id, seval, ptr, res_one, resRow, res_ro, evn]
          (refine hk _ ?_; clear hk k; try show Sat _ _ _ _ _)
          simp only [thenK, blockK]
          exact ⟨{ x with kind := w0, id := w1 }, ⟨hx.1, hx.2⟩, rfl, ⟨.inl rfl, .inl rfl, .inl rfl, trivial⟩, ⟨rfl, rfl, rfl⟩, ⟨rfl, rfl, rfl⟩, trivial⟩
        · (repeat refine Sat.seq ?_)
          (refine Sat.region_k fun k hk => ?_; simp -implicitDefEqProofs only [evr, id, seval, ptr, res_one, resRow, res_ro, evn]; refine hk _ ?_; clear hk k; try show Sat _ _ _ _ _)
          refine Sat.cond_b rfl (fun _ => ?_) (fun _ => ?_)
          · (refine Sat.region_k fun k hk => ?_; simp -implicitDefEqProofs only [evr, id, seval, ptr, res_one, resRow, res_ro, evn])
            refine wcall_plain (intRC cb) rfl plain_intU ?_
            rintro r ⟨w0, rfl⟩
            simp -implicitDefEqProofs only [evr, id, seval, ptr, res_one, resRow, res_ro, evn]
            refine wcall_plain (intRC cb) rfl plain_intU ?_
            rintro r ⟨w1, rfl⟩
            simp -implicitDefEqProofs only [evr, id, seval, ptr, res_one, resRow, res_ro, evn]
            refine wcall_plain (intRC cb) rfl plain_intU ?_
            rintro r ⟨w2, rfl⟩
            simp -implicitDefEqProofs only [evr, id, seval, ptr, res_one, resRow, res_ro, evn]
            (refine hk _ ?_; clear hk k; try show Sat _ _ _ _ _)
            simp only [thenK, blockK]
            exact ⟨{ x with vantage := w0, run := w1, number := w2 }, ⟨hx.1, hx.2⟩, rfl, ⟨.inl rfl, .inl rfl, .inl rfl, trivial⟩, ⟨rfl, rfl, rfl⟩, ⟨rfl, rfl, rfl⟩, trivial⟩
          · refine Sat.skip ?_
            simp only [thenK, blockK]
            exact ⟨x, hx, rfl, ⟨.inl rfl, .inl rfl, .inl rfl, trivial⟩, ⟨rfl, rfl, rfl⟩, ⟨rfl, rfl, rfl⟩, trivial⟩
  rintro y hy
  simp only [thenK, rsOwn, Res.cs, ptr]
  (repeat refine Sat.seq ?_)
  (refine Sat.region_k fun k hk => ?_; simp -implicitDefEqProofs only [evr, id, seval, ptr, res_one, resRow, res_ro, evn]; refine hk _ ?_; clear hk k; try show Sat _ _ _ _ _)
  refine Sat.ret ?_
  simp only [Tryz.results31, evr, id, reduceCtorEq, reduceIte, Nat.reduceMul, Nat.reduceAdd, Nat.reduceLT, Nat.reduceLeDiff, Nat.reduceEqDiff, Int.reduceLT, Int.reduceBEq, Int.reduceBNe, Nat.reduceBEq, ptr, List.append_nil, Int.toNat_zero, Nat.sub_self, res_one, resRow, res_ro]
  exact ⟨y, rfl, hy⟩
theorem plain_resA (x : Res) : ∀ R w, (resAg x).ok R w := by
  intro R w j hj
  have : oneS (resRd #[x] 0 j) = true := res_one _ _ _ hj
  rcases (show j = 0 ∨ j = 1 ∨ j = 2 ∨ j = 3 ∨ j = 4 ∨ j = 5 ∨ j = 6 ∨ j = 7 ∨ j = 8 ∨ j = 9 ∨ j = 10 ∨ j = 11 ∨ j = 12 ∨ j = 13 ∨ j = 14 ∨ j = 15 ∨ j = 16 by omega) with rfl | rfl | rfl | rfl | rfl | rfl | rfl | rfl | rfl | rfl | rfl | rfl | rfl | rfl | rfl | rfl | rfl <;> exact trivial
theorem plain_res (r : SV) (h : ∃ x : Res, r = resAg x ∧ wfR x) : ∀ R w, r.ok R w := by
  obtain ⟨x, rfl, _⟩ := h
  exact plain_resA x
end Go.Proofs.YtkpmihaaijiihaaGreat

/- Results that are drawn: dice.Shuffled, dice.Odd, by the evaluator. -/
set_option linter.unusedSimpArgs false
set_option linter.unusedVariables false
namespace Go.Proofs.YtkpmihaaijiihaaGreat
open Go.Sort Eng
set_option maxHeartbeats 1000000 in
set_option maxRecDepth 100000 in
theorem shuffledC (cb : Nat) (ad : Option Addr) (cap : Nat) (xs : List Res) (hl : xs.length ≤ 1000) :
    ContractN (Frm.codes cb) Tryz.prog 7 [ptr cb, .sl ad xs.length cap 17 (resRd xs.toArray)] (fun o => ∃ (a : Option Addr) (c : Nat) (ys : List Res), (∀ r ∈ ys, r ∈ xs) ∧ ys.length ≤ 2 * xs.length ∧ o = resRow a ys.length c ys.toArray) := by
  refine contractN_of Tryz.func7 rfl (by kernel_rfl) ?_
  simp only [Tryz.ntmps7, argEnv, ptr]
  (repeat refine Sat.seq ?_)
  (refine Sat.region_k fun k hk => ?_; simp -implicitDefEqProofs only [evr, id, seval, ptr, res_one, res_ro, resRow, evn]; refine hk _ ?_; clear hk k; try show Sat _ _ _ _ _)
  (repeat refine Sat.seq ?_)
  (refine Sat.region_k fun k hk => ?_; simp -implicitDefEqProofs only [evr, id, seval, ptr, res_one, res_ro, resRow, evn]; refine hk _ ?_; clear hk k; try show Sat _ _ _ _ _)
  refine Sat.adopt 5 54 17 (resRd #[]) rfl ?_
  (repeat refine Sat.seq ?_)
  (refine Sat.region_k fun k hk => ?_; simp -implicitDefEqProofs only [evr, id, seval, ptr, res_one, res_ro, resRow, evn]; refine hk _ ?_; clear hk k; try show Sat _ _ _ _ _)
  refine Sat.block ?_
  refine Sat.loop (ι := Nat × Option Addr × Nat × List Res) (fun z => ⟨48, [(6, .i .i64 z.1), (5, .os 0 z.2.1 z.2.2.2.length z.2.2.1), (0, ptr cb), (1, .sl ad xs.length cap 17 (resRd xs.toArray))], [resRow z.2.1 z.2.2.2.length z.2.2.1 z.2.2.2.toArray]⟩)
    (fun z => z.1 ≤ xs.length ∧ (∀ r ∈ z.2.2.2, r ∈ xs) ∧ z.2.2.2.length ≤ 2 * z.1) (fun z => xs.length - z.1) (0, none, 0, []) ⟨Nat.zero_le _, fun r h => (by cases h), Nat.zero_le _⟩ (by simp -implicitDefEqProofs only [evr, id, seval, ptr, res_one, res_ro, resRow, evl, evn]; first | exact ⟨rfl, rfl⟩ | rfl | trace_state) ?_
  rintro ⟨i, a, c, ys⟩ ⟨hi, hmem, hlen⟩
  simp only [resRow] at hi hmem hlen ⊢
  (repeat refine Sat.seq ?_)
  (refine Sat.region_k fun k hk => ?_; simp -implicitDefEqProofs only [evr, id, seval, ptr, res_one, res_ro, resRow, evn]; refine hk _ ?_; clear hk k; try show Sat _ _ _ _ _)
  (repeat refine Sat.seq ?_)
  refine Sat.cond_b rfl (fun h => ?_) (fun h => ?_)
  · have h1 : i < xs.length := by simp only [decide_eq_true_eq] at h; omega
    have e2 : IntKind.i64.wrap ((i : Int) + 1) = ((i + 1 : Nat) : Int) := by rw [w64 (by omega)]; omega
    have e4 : IntKind.i64.wrap ((ys.length : Int) + 1) = ((ys.length + 1 : Nat) : Int) := by rw [w64 (by omega)]; omega
    obtain ⟨r, hr⟩ : ∃ r, xs.toArray[i]! = r := ⟨_, rfl⟩
    have hrm : r ∈ xs := by rw [← hr, getB h1]; exact List.getElem_mem h1
    refine Sat.skip ?_
    simp only [thenK]
    (repeat refine Sat.seq ?_)
    refine Sat.block ?_
    (repeat refine Sat.seq ?_)
    refine Sat.region_k fun k hk => ?_
    simp -implicitDefEqProofs only [evr, id, seval, ptr, res_one, res_ro, resRow, e4, evn]
    refine wcall_plain (nextC cb ((ys.length + 1 : Nat) : Int) (by omega) (by omega)) rfl (by rintro _ ⟨x, rfl, _⟩; exact ok_plain rfl) ?_
    rintro _ ⟨x, rfl, hx0, hx1⟩
    obtain ⟨k0, rfl⟩ := Int.eq_ofNat_of_zero_le hx0
    have hk0 : k0 ≤ ys.length := by omega
    have e6 : IntKind.i64.wrap ((k0 : Int) + 1) = ((k0 + 1 : Nat) : Int) := by rw [w64 (by omega)]; omega
    simp -implicitDefEqProofs only [evr, id, seval, ptr, res_one, res_ro, resRow, evn]
    refine hk _ ?_
    clear hk k
    try show Sat _ _ _ _ _
    (repeat refine Sat.seq ?_)
    (refine Sat.region_k fun k hk => ?_; simp -implicitDefEqProofs only [evr, id, seval, ptr, res_one, res_ro, resRow, evn])
    intro b3
    refine ⟨⟨by unfold maxLen; omega, by omega⟩, fun a2 cap2 => ?_⟩
    (refine hk _ ?_; clear hk k; try show Sat _ _ _ _ _)
    refine Sat.know_row 0 rfl fun hcap => ?_
    (repeat refine Sat.seq ?_)
    refine Sat.at ⟨48, [(7, .i .i64 k0), (6, .i .i64 i), (0, ptr cb), (1, .sl ad xs.length cap 17 (resRd xs.toArray)), (5, .os 0 a2 (ys.length + 1) cap2)],
      [.row a2 54 (ys.length + 1) cap2 17 (rdMove (k0 + 1) k0 (ys.length - k0) (rdCat ys.length (resRd ys.toArray) (rdL (Res.cs default) 17)))]⟩ ?_ ?_
    · (refine Sat.region_tree (.keep [0, 1, 2, 4, 5] [] (.alt 3 (.one 6 (.one 7 .done)) (.alt 6 (.one 3 (.one 7 .done)) .none))) (by kernel_rfl) (by kernel_rfl) (fun _ _ h => h) fun k hk => ?_; simp only [WOT, List.map_cons, List.map_nil, List.getD_cons_zero, List.getD_cons_succ]; simp -implicitDefEqProofs only [evr, id, seval, ptr, res_one, res_ro, resRow, WOT, evn])
      simp -implicitDefEqProofs only [evr, id, reduceCtorEq, reduceIte, Nat.reduceMul, Nat.reduceAdd, Nat.reduceLT, Nat.reduceLeDiff, Nat.reduceEqDiff, Int.reduceLT, Int.reduceBEq, Int.reduceBNe, Nat.reduceBEq, ptr, res_one, res_ro, Int.reduceToNat, resRow, e6, evn]
      repeat' (with_reducible refine And.intro ?_ ?_)
      all_goals first | omega | skip
      all_goals
        refine hk _ ?_
        simp only [thenK, show min (ys.length + 1 - k0) (ys.length + 1 - (k0 + 1)) = ys.length - k0 by omega, ← hr]
        simp -implicitDefEqProofs only [evr, id, reduceCtorEq, reduceIte, Nat.reduceMul, Nat.reduceAdd, Nat.reduceLT, Nat.reduceLeDiff, Nat.reduceEqDiff, Int.reduceLT, Int.reduceBEq, Int.reduceBNe, Nat.reduceBEq, ptr, res_one, res_ro, Int.reduceToNat, resRow, evl, evn]
        exact fun _ _ _ _ => rfl
    simp only [thenK]
    (repeat refine Sat.seq ?_)
    (refine Sat.region_k fun k hk => ?_; simp -implicitDefEqProofs only [evr, id, seval, ptr, res_one, res_ro, resRow, evn])
    refine ⟨by omega, by omega, by omega, ?_⟩
    (refine hk _ ?_; clear hk k; try show Sat _ _ _ _ _)
    have hil := insL_len (ys := ys) (r := r) hk0
    refine Sat.le (st' := ⟨48, [(6, .i .i64 i), (0, ptr cb), (1, .sl ad xs.length cap 17 (resRd xs.toArray)), (5, .os 0 a2 (insL ys k0 r).length cap2)], [resRow a2 (insL ys k0 r).length cap2 (insL ys k0 r).toArray]⟩) ?_ ?_
    · have hmem2 : ∀ x ∈ insL ys k0 r, x ∈ xs := fun x hx => by
        rcases insL_mem.1 hx with h5 | rfl
        · exact hmem x h5
        · exact hrm
      have hlen2 : (insL ys k0 r).length ≤ 2 * i + 1 := by omega
      generalize insL ys k0 r = zs at hmem2 hlen2
      clear hil
      simp only [resRow]
      (repeat refine Sat.seq ?_)
      (refine Sat.region_k fun k hk => ?_; simp -implicitDefEqProofs only [evr, id, seval, ptr, res_one, res_ro, resRow, evn])
      refine wcall_plain (boolC cb 8 (by decide) (by decide)) rfl plain_bool ?_
      rintro _ ⟨b, rfl⟩
      simp -implicitDefEqProofs only [evr, id, seval, ptr, res_one, res_ro, resRow, evn]
      (refine hk _ ?_; clear hk k; try show Sat _ _ _ _ _)
      refine Sat.cond_b rfl (fun h3 => ?_) (fun h3 => ?_)
      · (repeat refine Sat.seq ?_)
        (refine Sat.region_k fun k hk => ?_; simp -implicitDefEqProofs only [evr, id, seval, ptr, res_one, res_ro, resRow, evn])
        refine ⟨by omega, fun b4 => ⟨⟨by unfold maxLen; omega, by omega⟩, fun a5 cap5 => ?_⟩⟩
        refine hk _ ?_
        clear hk k
        simp only [thenK, blockK, reduceIte]
        (repeat refine Sat.seq ?_)
        refine Sat.region_k fun k hk => ?_
        simp -implicitDefEqProofs only [evr, id, seval, ptr, res_one, res_ro, resRow, e2, evn]
        refine hk _ ?_
        simp only [thenK, blockK]
        have hl3 : (zs ++ [r]).length = zs.length + 1 := by simp
        refine ⟨(i + 1, a5, cap5, zs ++ [r]), ⟨by simp only; omega, fun x hx => ?_, by simp only; omega⟩, by simp only; omega, ?_⟩
        · rcases List.mem_append.1 hx with h5 | h5
          · exact hmem2 x h5
          · rw [List.mem_singleton.1 h5]; exact hrm
        simp only [hl3]
        simp -implicitDefEqProofs only [evr, id, seval, ptr, res_one, res_ro, resRow, evl, evn]
        subst hr
        exact res_app rfl
      · refine Sat.skip ?_
        simp only [thenK, blockK, reduceIte]
        (repeat refine Sat.seq ?_)
        refine Sat.region_k fun k hk => ?_
        simp -implicitDefEqProofs only [evr, id, seval, ptr, res_one, res_ro, resRow, e2, evn]
        refine hk _ ?_
        simp only [thenK, blockK]
        refine ⟨(i + 1, a2, cap2, zs), ⟨by simp only; omega, hmem2, by simp only; omega⟩, by simp only; omega, ?_⟩
        simp -implicitDefEqProofs only [evr, id, seval, ptr, res_one, res_ro, resRow, evl, evn]
    · simp only [hil, resRow]
      simp -implicitDefEqProofs only [evr, id, seval, ptr, res_one, res_ro, resRow, evl, evn]
      subst hr
      exact ins_rd Res.cs 17 (fun _ => rfl) hk0 rfl
  · have h1 : i = xs.length := by simp only [decide_eq_false_iff_not] at h; omega
    subst h1
    refine Sat.exit ?_
    simp only [thenK, blockK, reduceIte]
    (repeat refine Sat.seq ?_)
    (refine Sat.region_k fun k hk => ?_; simp -implicitDefEqProofs only [evr, id, seval, ptr, res_one, res_ro, resRow, evn]; refine hk _ ?_; clear hk k; try show Sat _ _ _ _ _)
    refine Sat.ret ?_
    simp only [Tryz.results7, evr, id, reduceCtorEq, reduceIte, Nat.reduceMul, Nat.reduceAdd, Nat.reduceLT, Nat.reduceLeDiff, Nat.reduceEqDiff, Int.reduceLT, Int.reduceBEq, Int.reduceBNe, Nat.reduceBEq, ptr, res_one, res_ro, List.append_nil, Int.toNat_zero, Nat.sub_self, Int.reduceToNat, resRow, retN, retNK, newRow]
    exact ⟨⟨rfl, rfl, rfl⟩, a, c, ys, hmem, hlen, rfl⟩
end Go.Proofs.YtkpmihaaijiihaaGreat

/- Results that are drawn, with one change: dice.Odd, by the evaluator (its cases are written by gen_odd.py). -/
set_option linter.unusedSimpArgs false
set_option linter.unusedVariables false
namespace Go.Proofs.YtkpmihaaijiihaaGreat
open Go.Sort Eng
theorem res_2x (d : Array Res) (i : Nat) : resRd d i 2 = .i .i64 (d[i]!).number := rfl
theorem res_3x (d : Array Res) (i : Nat) : resRd d i 3 = .i .i64 (d[i]!).at_ := rfl
theorem res_8x (d : Array Res) (i : Nat) : resRd d i 8 = .b (d[i]!).answered := rfl
theorem res_9x (d : Array Res) (i : Nat) : resRd d i 9 = .b (d[i]!).doubled := rfl
theorem w64_inAx {x : Int} (h : InA x) : w64i x = x := w64 ⟨by have := h.1; omega, by have := h.2; omega⟩
theorem wf_rg {x : Res} (h : wfR x) : RgR x := ⟨u32_keep h.1, u32_keep h.2⟩
theorem all17 {P : Nat → Prop} (h : P 0 ∧ P 1 ∧ P 2 ∧ P 3 ∧ P 4 ∧ P 5 ∧ P 6 ∧ P 7 ∧ P 8 ∧ P 9 ∧ P 10 ∧ P 11 ∧ P 12 ∧ P 13 ∧ P 14 ∧ P 15 ∧ P 16) : ∀ j, j < 17 → P j := by
  intro j hj
  obtain ⟨h0, h1, h2, h3, h4, h5, h6, h7, h8, h9, h10, h11, h12, h13, h14, h15, h16⟩ := h
  rcases (show j = 0 ∨ j = 1 ∨ j = 2 ∨ j = 3 ∨ j = 4 ∨ j = 5 ∨ j = 6 ∨ j = 7 ∨ j = 8 ∨ j = 9 ∨ j = 10 ∨ j = 11 ∨ j = 12 ∨ j = 13 ∨ j = 14 ∨ j = 15 ∨ j = 16 by omega) with rfl | rfl | rfl | rfl | rfl | rfl | rfl | rfl | rfl | rfl | rfl | rfl | rfl | rfl | rfl | rfl | rfl <;> assumption
theorem set_rg {ys : List Res} {ix : Nat} {x : Res} (h : ∀ r ∈ ys, RgR r) (hx : RgR x) : ∀ r ∈ ys.set ix x, RgR r := fun r hr => by
  rcases List.mem_or_eq_of_mem_set hr with h1 | rfl
  · exact h r h1
  · exact hx
theorem rs_set {ys : List Res} {ix f : Nat} {vs : List SV} (h : ix < ys.length) (x : Res) (hx : ∀ j, j < 17 → (if f ≤ j ∧ j < f + vs.length then vs.getD (j - f) default else (Res.cs ys.toArray[ix]!).getD j default) = (Res.cs x).getD j default) : rdEq ys.length 17 (rdSet (resRd ys.toArray) ix f vs) (resRd (ys.set ix x).toArray) := by
  intro p q hp hq
  unfold rdSet
  have hl : p < (ys.set ix x).length := by rw [List.length_set]; exact hp
  show _ = (Res.cs (ys.set ix x).toArray[p]!).getD q default
  rw [getB hl]
  by_cases e : p = ix
  · subst e
    rw [List.getElem_set_self, ← hx q hq]
    by_cases g : f ≤ q ∧ q < f + vs.length
    · rw [if_pos ⟨rfl, g⟩, if_pos g]
    · rw [if_neg (fun g2 => g g2.2), if_neg g]
      rfl
  · rw [if_neg (fun g => e g.1), List.getElem_set_ne (fun g => e g.symm)]
    show (Res.cs ys.toArray[p]!).getD q default = _
    rw [getB hp]
set_option maxHeartbeats 2000000 in
set_option maxRecDepth 100000 in
theorem oddC (cb : Nat) (ad : Option Addr) (cap : Nat) (xs : List Res) (hl : xs.length ≤ 1000) (hin : ∀ r ∈ xs, RgR r) :
    ContractN (Frm.codes cb) Tryz.prog 8 [ptr cb, .sl ad xs.length cap 17 (resRd xs.toArray)] (fun o => ∃ (a : Option Addr) (c : Nat) (ys : List Res), (∀ r ∈ ys, RgR r) ∧ ys.length ≤ xs.length + 1 ∧ o = resRow a ys.length c ys.toArray) := by
  refine contractN_of Tryz.func8 rfl (by kernel_rfl) ?_
  simp only [Tryz.ntmps8, argEnv, ptr]
  (repeat refine Sat.seq ?_)
  (refine Sat.region_k fun k hk => ?_; simp -implicitDefEqProofs only [evr, id, seval, ptr, res_one, res_ro, resRow, res_8x, res_9x, res_3x, evn]; refine hk _ ?_; clear hk k; try show Sat _ _ _ _ _)
  (repeat refine Sat.seq ?_)
  (refine Sat.region_k fun k hk => ?_; simp -implicitDefEqProofs only [evr, id, seval, ptr, res_one, res_ro, resRow, res_8x, res_9x, res_3x, evn])
  refine ⟨⟨by unfold maxLen; omega, by omega⟩, fun a c => ?_⟩
  (refine hk _ ?_; clear hk k; try show Sat _ _ _ _ _)
  (repeat refine Sat.seq ?_)
  (refine Sat.region_k fun k hk => ?_; simp -implicitDefEqProofs only [evr, id, seval, ptr, res_one, res_ro, resRow, res_8x, res_9x, res_3x, evn]; refine hk _ ?_; clear hk k; try show Sat _ _ _ _ _)
  (repeat refine Sat.seq ?_)
  refine Sat.cond_b rfl (fun h => ?_) (fun h => ?_)
  · (repeat refine Sat.seq ?_)
    (refine Sat.region_k fun k hk => ?_; simp -implicitDefEqProofs only [evr, id, seval, ptr, res_one, res_ro, resRow, res_8x, res_9x, res_3x, evn])
    refine wcall_plain (resultC cb) rfl plain_res ?_
    rintro _ ⟨x, rfl, hw⟩
    simp only [resAg, Res.cs, evr, id, reduceCtorEq, reduceIte, Nat.reduceMul, Nat.reduceAdd, Nat.reduceLT, Nat.reduceLeDiff, Nat.reduceEqDiff, Int.reduceLT, Int.reduceBEq, Int.reduceBNe, Nat.reduceBEq, ptr, res_one, res_ro, List.append_nil, Int.toNat_zero, Nat.sub_self, Int.reduceToNat, resRow, res_8x, res_9x, res_3x]
    intro b3
    refine ⟨⟨by unfold maxLen; omega, by omega⟩, fun a2 cap2 => ?_⟩
    (refine hk _ ?_; clear hk k; try show Sat _ _ _ _ _)
    have h0 : xs.length = 0 := by simpa using h
    obtain rfl := List.eq_nil_of_length_eq_zero h0
    refine Sat.le (st' := ⟨125, [(4, .os 0 a2 1 cap2)], [resRow a2 1 cap2 ([] ++ [x]).toArray]⟩) ?_ ?_
    · refine Sat.ret ?_
      simp only [thenK, resRow, Tryz.results8, evr, id, reduceCtorEq, reduceIte, Nat.reduceMul, Nat.reduceAdd, Nat.reduceLT, Nat.reduceLeDiff, Nat.reduceEqDiff, Int.reduceLT, Int.reduceBEq, Int.reduceBNe, Nat.reduceBEq, ptr, res_one, res_ro, List.append_nil, Int.toNat_zero, Nat.sub_self, Int.reduceToNat, resRow, res_8x, res_9x, res_3x, retN, retNK, newRow]
      exact ⟨⟨rfl, rfl, rfl⟩, a2, cap2, [x], fun r hr => by rw [List.mem_singleton.1 hr]; exact wf_rg hw, by simp, rfl⟩
    · simp only [resRow]
      simp -implicitDefEqProofs only [evr, id, seval, ptr, res_one, res_ro, resRow, res_8x, res_9x, res_3x, evl, evn]
      exact (res_app (ys := ([] : List Res)) rfl)
  have hpos : 0 < xs.length := by
    have : ¬ ((xs.length : Int) = 0) := by simpa using h
    omega
  refine Sat.skip ?_
  simp only [thenK]
  obtain ⟨ys, hyx⟩ : ∃ ys, ys = xs := ⟨_, rfl⟩
  rw [← hyx] at hpos hin hl ⊢
  clear hyx h
  have hys := hin
  (repeat refine Sat.seq ?_)
  (refine Sat.region_k fun k hk => ?_; simp -implicitDefEqProofs only [evr, id, seval, ptr, res_one, res_ro, resRow, res_8x, res_9x, res_3x, evn])
  refine wcall_plain (nextC cb ys.length (by omega) (by omega)) rfl (by rintro _ ⟨x, rfl, _⟩; exact ok_plain rfl) ?_
  rintro _ ⟨ix, rfl, hx0, hx1⟩
  obtain ⟨ix, rfl⟩ := Int.eq_ofNat_of_zero_le hx0
  have hix : ix < ys.length := by omega
  obtain ⟨y, hy⟩ : ∃ y, ys.toArray[ix]! = y := ⟨_, rfl⟩
  have hgy : RgR y := by rw [← hy, getB hix]; exact hys _ (List.getElem_mem hix)
  simp -implicitDefEqProofs only [evr, id, seval, ptr, res_one, res_ro, resRow, res_8x, res_9x, res_3x, evn]
  (refine hk _ ?_; clear hk k; try show Sat _ _ _ _ _)
  (repeat refine Sat.seq ?_)
  (refine Sat.region_k fun k hk => ?_; simp -implicitDefEqProofs only [evr, id, seval, ptr, res_one, res_ro, resRow, res_8x, res_9x, res_3x, evn])
  refine wcall_plain (nextC cb 9 (by decide) (by decide)) rfl (by rintro _ ⟨x, rfl, _⟩; exact ok_plain rfl) ?_
  rintro _ ⟨w9, rfl, _, _⟩
  simp -implicitDefEqProofs only [evr, id, seval, ptr, res_one, res_ro, resRow, res_8x, res_9x, res_3x, evn]
  (refine hk _ ?_; clear hk k; try show Sat _ _ _ _ _)
  refine Sat.atF (ι := List Res) (fun zs => ⟨125, [(5, .os 0 a ys.length c)], [.row a 54 ys.length c 17 (resRd zs.toArray)]⟩) (fun zs => zs.length = ys.length ∧ ∀ r ∈ zs, RgR r) ?_ ?_
  · refine Sat.block ?_
    (repeat refine Sat.seq ?_)
    (refine Sat.region_k fun k hk => ?_; simp -implicitDefEqProofs only [evr, id, seval, ptr, res_one, res_ro, resRow, res_8x, res_9x, res_3x, evn]; refine hk _ ?_; clear hk k; try show Sat _ _ _ _ _)
    refine Sat.cond_b rfl (fun h => ?_) (fun h => ?_)
    · (repeat refine Sat.seq ?_)
      (refine Sat.region_k fun k hk => ?_; simp -implicitDefEqProofs only [evr, id, seval, ptr, res_one, res_ro, resRow, res_8x, res_9x, res_3x, evn])
      refine wcall_plain (resultC cb) rfl plain_res ?_
      rintro _ ⟨x, rfl, hw⟩
      simp only [resAg, Res.cs, evr, id, reduceCtorEq, reduceIte, Nat.reduceMul, Nat.reduceAdd, Nat.reduceLT, Nat.reduceLeDiff, Nat.reduceEqDiff, Int.reduceLT, Int.reduceBEq, Int.reduceBNe, Nat.reduceBEq, ptr, res_one, res_ro, List.append_nil, Int.toNat_zero, Nat.sub_self, Int.reduceToNat, resRow, res_8x, res_9x, res_3x]
      refine ⟨by omega, by omega, ?_⟩
      refine hk _ ?_
      clear hk k
      simp only [thenK, blockK, reduceIte]
      refine ⟨ys.set ix x, ⟨List.length_set .., set_rg hys (wf_rg hw)⟩, ?_⟩
      simp -implicitDefEqProofs only [evr, id, seval, ptr, res_one, res_ro, resRow, res_8x, res_9x, res_3x, evl, evn]
      exact rs_set hix x (by rw [hy]; exact all17 ⟨rfl, rfl, rfl, rfl, rfl, rfl, rfl, rfl, rfl, rfl, rfl, rfl, rfl, rfl, rfl, rfl, rfl⟩)
    · (repeat refine Sat.seq ?_)
      (refine Sat.region_k fun k hk => ?_; simp -implicitDefEqProofs only [evr, id, seval, ptr, res_one, res_ro, resRow, res_8x, res_9x, res_3x, evn]; refine hk _ ?_; clear hk k; try show Sat _ _ _ _ _)
      refine Sat.cond_b rfl (fun h => ?_) (fun h => ?_)
      · (repeat refine Sat.seq ?_)
        (refine Sat.region_k fun k hk => ?_; simp -implicitDefEqProofs only [evr, id, seval, ptr, res_one, res_ro, resRow, res_8x, res_9x, res_3x, evn])
        refine wcall_plain (addrC cb) rfl plain_addrC ?_
        rintro _ ⟨v, hv, rfl⟩
        simp -implicitDefEqProofs only [evr, id, seval, ptr, res_one, res_ro, resRow, res_8x, res_9x, res_3x, evn]
        refine ⟨by omega, by omega, ?_⟩
        refine hk _ ?_
        clear hk k
        simp only [thenK, blockK, reduceIte]
        refine ⟨ys.set ix { y with from_ := v }, ⟨List.length_set .., set_rg hys ⟨hgy.1, w64_inAx hv⟩⟩, ?_⟩
        simp -implicitDefEqProofs only [evr, id, seval, ptr, res_one, res_ro, resRow, res_8x, res_9x, res_3x, evl, evn]
        exact rs_set hix { y with from_ := v } (by rw [hy]; exact all17 ⟨rfl, rfl, rfl, rfl, rfl, rfl, rfl, rfl, rfl, rfl, rfl, rfl, rfl, rfl, rfl, rfl, rfl⟩)
      · (repeat refine Sat.seq ?_)
        (refine Sat.region_k fun k hk => ?_; simp -implicitDefEqProofs only [evr, id, seval, ptr, res_one, res_ro, resRow, res_8x, res_9x, res_3x, evn]; refine hk _ ?_; clear hk k; try show Sat _ _ _ _ _)
        refine Sat.cond_b rfl (fun h => ?_) (fun h => ?_)
        · (repeat refine Sat.seq ?_)
          (refine Sat.region_k fun k hk => ?_; simp -implicitDefEqProofs only [evr, id, seval, ptr, res_one, res_ro, resRow, res_8x, res_9x, res_3x, evn])
          refine ⟨by omega, by omega, by omega, by omega, ?_⟩
          refine hk _ ?_
          clear hk k
          simp only [thenK, blockK, reduceIte]
          refine ⟨ys.set ix { y with answered := !y.answered }, ⟨List.length_set .., set_rg hys hgy⟩, ?_⟩
          simp -implicitDefEqProofs only [evr, id, seval, ptr, res_one, res_ro, resRow, res_8x, res_9x, res_3x, evl, evn]
          exact rs_set hix { y with answered := !y.answered } (by rw [hy]; exact all17 ⟨rfl, rfl, rfl, rfl, rfl, rfl, rfl, rfl, rfl, rfl, rfl, rfl, rfl, rfl, rfl, rfl, rfl⟩)
        · (repeat refine Sat.seq ?_)
          (refine Sat.region_k fun k hk => ?_; simp -implicitDefEqProofs only [evr, id, seval, ptr, res_one, res_ro, resRow, res_8x, res_9x, res_3x, evn]; refine hk _ ?_; clear hk k; try show Sat _ _ _ _ _)
          refine Sat.cond_b rfl (fun h => ?_) (fun h => ?_)
          · (repeat refine Sat.seq ?_)
            (refine Sat.region_k fun k hk => ?_; simp -implicitDefEqProofs only [evr, id, seval, ptr, res_one, res_ro, resRow, res_8x, res_9x, res_3x, evn])
            intro bp
            refine wcall_plain (pickI cb bp [0, 1, 2, 255, 256] (fun _ => True) (by decide) (by decide) (by simp)) (by simp -implicitDefEqProofs only [evr, id, seval, ptr, res_one, res_ro, resRow, res_8x, res_9x, res_3x, evn]) plain_pick ?_
            rintro _ ⟨v, rfl, _⟩
            simp -implicitDefEqProofs only [evr, id, seval, ptr, res_one, res_ro, resRow, res_8x, res_9x, res_3x, evn]
            refine ⟨by omega, by omega, ?_⟩
            refine hk _ ?_
            clear hk k
            simp only [thenK, blockK, reduceIte]
            refine ⟨ys.set ix { y with ttl := v }, ⟨List.length_set .., set_rg hys hgy⟩, ?_⟩
            simp -implicitDefEqProofs only [evr, id, seval, ptr, res_one, res_ro, resRow, res_8x, res_9x, res_3x, evl, evn]
            exact rs_set hix { y with ttl := v } (by rw [hy]; exact all17 ⟨rfl, rfl, rfl, rfl, rfl, rfl, rfl, rfl, rfl, rfl, rfl, rfl, rfl, rfl, rfl, rfl, rfl⟩)
          · (repeat refine Sat.seq ?_)
            (refine Sat.region_k fun k hk => ?_; simp -implicitDefEqProofs only [evr, id, seval, ptr, res_one, res_ro, resRow, res_8x, res_9x, res_3x, evn]; refine hk _ ?_; clear hk k; try show Sat _ _ _ _ _)
            refine Sat.cond_b rfl (fun h => ?_) (fun h => ?_)
            · (repeat refine Sat.seq ?_)
              (refine Sat.region_tree (.keep [0, 1, 2, 3, 4, 5, 6, 8, 9, 10, 11, 7, 12, 13] [] (.one 14 (.one 15 (.one 16 (.one 17 (.one 18 .done)))))) (by kernel_rfl) (by kernel_rfl) (fun _ _ h => h) fun k hk => ?_; simp only [WOT, List.map_cons, List.map_nil, List.getD_cons_zero, List.getD_cons_succ]; simp -implicitDefEqProofs only [evr, id, seval, ptr, res_one, res_ro, resRow, res_8x, res_9x, res_3x, WOT, evn])
              refine ⟨by omega, by omega, by omega, by omega, ?_⟩
              intro bp
              refine wcall_plain (pickI cb bp [ys.toArray[ix]!.at_, IntKind.i64.wrap (ys.toArray[ix]!.at_ - 1), 2251799813685248, 2251799813685249] (fun _ => True) (by simp) (by simp) (by simp)) (by simp -implicitDefEqProofs only [evr, id, seval, ptr, res_one, res_ro, resRow, res_8x, res_9x, res_3x, evn]) plain_pick ?_
              rintro _ ⟨v, rfl, _⟩
              simp -implicitDefEqProofs only [evr, id, seval, ptr, res_one, res_ro, resRow, res_8x, res_9x, res_3x, evn]
              refine ⟨by omega, by omega, ?_⟩
              refine hk _ ?_
              clear hk k
              simp only [thenK, blockK, reduceIte]
              refine ⟨ys.set ix { y with back := v }, ⟨List.length_set .., set_rg hys hgy⟩, ?_⟩
              simp -implicitDefEqProofs only [evr, id, seval, ptr, res_one, res_ro, resRow, res_8x, res_9x, res_3x, evl, evn]
              exact rs_set hix { y with back := v } (by rw [hy]; exact all17 ⟨rfl, rfl, rfl, rfl, rfl, rfl, rfl, rfl, rfl, rfl, rfl, rfl, rfl, rfl, rfl, rfl, rfl⟩)
            · (repeat refine Sat.seq ?_)
              (refine Sat.region_k fun k hk => ?_; simp -implicitDefEqProofs only [evr, id, seval, ptr, res_one, res_ro, resRow, res_8x, res_9x, res_3x, evn]; refine hk _ ?_; clear hk k; try show Sat _ _ _ _ _)
              refine Sat.cond_b rfl (fun h => ?_) (fun h => ?_)
              · (repeat refine Sat.seq ?_)
                (refine Sat.region_k fun k hk => ?_; simp -implicitDefEqProofs only [evr, id, seval, ptr, res_one, res_ro, resRow, res_8x, res_9x, res_3x, evn])
                refine wcall_plain (nextC cb ys.length (by omega) (by omega)) rfl (by rintro _ ⟨x, rfl, _⟩; exact ok_plain rfl) ?_
                rintro _ ⟨q, rfl, hq0, hq1⟩
                obtain ⟨q, rfl⟩ := Int.eq_ofNat_of_zero_le hq0
                simp -implicitDefEqProofs only [evr, id, seval, ptr, res_one, res_ro, resRow, res_8x, res_9x, res_3x, res_2x, evn]
                refine ⟨by omega, by omega, by omega, by omega, ?_⟩
                refine hk _ ?_
                clear hk k
                simp only [thenK, blockK, reduceIte]
                refine ⟨ys.set ix { y with number := (ys.toArray[q]!).number }, ⟨List.length_set .., set_rg hys hgy⟩, ?_⟩
                simp -implicitDefEqProofs only [evr, id, seval, ptr, res_one, res_ro, resRow, res_8x, res_9x, res_3x, evl, evn]
                exact rs_set hix { y with number := (ys.toArray[q]!).number } (by rw [hy]; exact all17 ⟨rfl, rfl, rfl, rfl, rfl, rfl, rfl, rfl, rfl, rfl, rfl, rfl, rfl, rfl, rfl, rfl, rfl⟩)
              · (repeat refine Sat.seq ?_)
                (refine Sat.region_k fun k hk => ?_; simp -implicitDefEqProofs only [evr, id, seval, ptr, res_one, res_ro, resRow, res_8x, res_9x, res_3x, evn]; refine hk _ ?_; clear hk k; try show Sat _ _ _ _ _)
                refine Sat.cond_b rfl (fun h => ?_) (fun h => ?_)
                · (repeat refine Sat.seq ?_)
                  (refine Sat.region_k fun k hk => ?_; simp -implicitDefEqProofs only [evr, id, seval, ptr, res_one, res_ro, resRow, res_8x, res_9x, res_3x, evn])
                  refine wcall_plain (nextC cb 2 (by decide) (by decide)) rfl (by rintro _ ⟨x, rfl, _⟩; exact ok_plain rfl) ?_
                  rintro _ ⟨q, rfl, hq0, hq1⟩
                  simp -implicitDefEqProofs only [evr, id, seval, ptr, res_one, res_ro, resRow, res_8x, res_9x, res_3x, evn]
                  refine ⟨by omega, by omega, ?_⟩
                  refine hk _ ?_
                  clear hk k
                  simp only [thenK, blockK, reduceIte]
                  refine ⟨ys.set ix { y with dst := IntKind.u32.wrap q }, ⟨List.length_set .., set_rg hys ⟨w64_inAx (wrapA q), hgy.2⟩⟩, ?_⟩
                  simp -implicitDefEqProofs only [evr, id, seval, ptr, res_one, res_ro, resRow, res_8x, res_9x, res_3x, evl, evn]
                  exact rs_set hix { y with dst := IntKind.u32.wrap q } (by rw [hy]; exact all17 ⟨rfl, rfl, rfl, rfl, rfl, rfl, rfl, rfl, rfl, rfl, rfl, rfl, rfl, rfl, rfl, rfl, rfl⟩)
                · (repeat refine Sat.seq ?_)
                  (refine Sat.region_k fun k hk => ?_; simp -implicitDefEqProofs only [evr, id, seval, ptr, res_one, res_ro, resRow, res_8x, res_9x, res_3x, evn]; refine hk _ ?_; clear hk k; try show Sat _ _ _ _ _)
                  refine Sat.cond_b rfl (fun h => ?_) (fun h => ?_)
                  · (repeat refine Sat.seq ?_)
                    (refine Sat.region_k fun k hk => ?_; simp -implicitDefEqProofs only [evr, id, seval, ptr, res_one, res_ro, resRow, res_8x, res_9x, res_3x, evn])
                    refine ⟨by omega, by omega, by omega, by omega, ?_⟩
                    refine hk _ ?_
                    clear hk k
                    simp only [thenK, blockK, reduceIte]
                    refine ⟨ys.set ix { y with doubled := !y.doubled }, ⟨List.length_set .., set_rg hys hgy⟩, ?_⟩
                    simp -implicitDefEqProofs only [evr, id, seval, ptr, res_one, res_ro, resRow, res_8x, res_9x, res_3x, evl, evn]
                    exact rs_set hix { y with doubled := !y.doubled } (by rw [hy]; exact all17 ⟨rfl, rfl, rfl, rfl, rfl, rfl, rfl, rfl, rfl, rfl, rfl, rfl, rfl, rfl, rfl, rfl, rfl⟩)
                  · (repeat refine Sat.seq ?_)
                    (refine Sat.region_k fun k hk => ?_; simp -implicitDefEqProofs only [evr, id, seval, ptr, res_one, res_ro, resRow, res_8x, res_9x, res_3x, evn]; refine hk _ ?_; clear hk k; try show Sat _ _ _ _ _)
                    refine Sat.cond_b rfl (fun h => ?_) (fun h => ?_)
                    · (repeat refine Sat.seq ?_)
                      (refine Sat.region_k fun k hk => ?_; simp -implicitDefEqProofs only [evr, id, seval, ptr, res_one, res_ro, resRow, res_8x, res_9x, res_3x, evn])
                      refine wcall_plain (nextC cb 7 (by decide) (by decide)) rfl (by rintro _ ⟨x, rfl, _⟩; exact ok_plain rfl) ?_
                      rintro _ ⟨q, rfl, hq0, hq1⟩
                      simp -implicitDefEqProofs only [evr, id, seval, ptr, res_one, res_ro, resRow, res_8x, res_9x, res_3x, evn]
                      refine ⟨by omega, by omega, ?_⟩
                      refine hk _ ?_
                      clear hk k
                      simp only [thenK, blockK, reduceIte]
                      refine ⟨ys.set ix { y with kind := q }, ⟨List.length_set .., set_rg hys hgy⟩, ?_⟩
                      simp -implicitDefEqProofs only [evr, id, seval, ptr, res_one, res_ro, resRow, res_8x, res_9x, res_3x, evl, evn]
                      exact rs_set hix { y with kind := q } (by rw [hy]; exact all17 ⟨rfl, rfl, rfl, rfl, rfl, rfl, rfl, rfl, rfl, rfl, rfl, rfl, rfl, rfl, rfl, rfl, rfl⟩)
                    · refine Sat.skip ?_
                      simp only [thenK, blockK, reduceIte]
                      exact ⟨ys, ⟨rfl, hys⟩, by simp -implicitDefEqProofs only [evr, id, seval, ptr, res_one, res_ro, resRow, res_8x, res_9x, res_3x, evl, evn]; try exact fun _ _ _ _ => rfl⟩
  rintro zs ⟨hz1, hz2⟩
  simp only [thenK]
  (repeat refine Sat.seq ?_)
  (refine Sat.region_k fun k hk => ?_; simp -implicitDefEqProofs only [evr, id, seval, ptr, res_one, res_ro, resRow, res_8x, res_9x, res_3x, evn]; refine hk _ ?_; clear hk k; try show Sat _ _ _ _ _)
  refine Sat.ret ?_
  simp only [thenK, Tryz.results8, evr, id, reduceCtorEq, reduceIte, Nat.reduceMul, Nat.reduceAdd, Nat.reduceLT, Nat.reduceLeDiff, Nat.reduceEqDiff, Int.reduceLT, Int.reduceBEq, Int.reduceBNe, Nat.reduceBEq, ptr, res_one, res_ro, List.append_nil, Int.toNat_zero, Nat.sub_self, Int.reduceToNat, resRow, res_8x, res_9x, res_3x, retN, retNK, newRow]
  exact ⟨⟨rfl, rfl, rfl⟩, a, c, zs, hz2, by omega, by rw [hz1]⟩
end Go.Proofs.YtkpmihaaijiihaaGreat

/- Results as parameters of a law: what they read as. -/
set_option linter.unusedSimpArgs false
set_option linter.unusedVariables false
set_option maxRecDepth 100000
namespace Go.Proofs.YtkpmihaaijiihaaGreat
open Go.Sort Eng Go.RowKit Go.WideShapes Go.ChangeShapes
theorem sh_fields {P : Program} {D : Nat} {t : TypeId} {ps : List (Nat × TypeId)} {l : List SV} (hu : P.underlying t = some (.struct (P.fieldsOf t))) (hm : (P.fieldsOf t).toList.map (fun f => (f.offset, f.type)) = ps) (h : Sh P (D + 1) t l) :
    l.length = P.cellsOf t ∧ ∀ p ∈ ps, Sh P D p.2 ((l.drop p.1).take (P.cellsOf p.2)) := by
  obtain ⟨h1, h2⟩ := sh_struct hu h
  refine ⟨h1, fun p hp => ?_⟩
  rw [← hm] at hp
  obtain ⟨f, hf, rfl⟩ := List.mem_map.1 hp
  exact h2 f hf
theorem ans_of_sh {D : Nat} {l : List SV} (h : Sh Tryz.prog (D + 2) 52 l) : ∃ a b c d e f : Int, l = [.i .u32 a, .i .i64 b, .i .i64 c, .i .i64 d, .i .i64 e, .i .i64 f] ∧ u32 a := by
  obtain ⟨h1, h2⟩ := sh_fields (ps := [(0, 50), (1, 3), (2, 3), (3, 3), (4, 3), (5, 3)]) (by kernel_rfl) (by kernel_rfl) h
  have hc : Tryz.prog.cellsOf 52 = 6 := by kernel_rfl
  have c1 : Tryz.prog.cellsOf 3 = 1 := by kernel_rfl
  have c2 : Tryz.prog.cellsOf 50 = 1 := by kernel_rfl
  rw [hc] at h1
  match l, h1 with
  | [x0, x1, x2, x3, x4, x5], _ =>
    have g0 := h2 (0, 50) (by simp)
    have g1 := h2 (1, 3) (by simp)
    have g2 := h2 (2, 3) (by simp)
    have g3 := h2 (3, 3) (by simp)
    have g4 := h2 (4, 3) (by simp)
    have g5 := h2 (5, 3) (by simp)
    simp only [c1, c2] at g0 g1 g2 g3 g4 g5
    obtain ⟨n0, e0, w0⟩ := sh_int (k := .u32) (by kernel_rfl) g0
    obtain ⟨n1, e1, w1⟩ := sh_int (k := .i64) (by kernel_rfl) g1
    obtain ⟨n2, e2, w2⟩ := sh_int (k := .i64) (by kernel_rfl) g2
    obtain ⟨n3, e3, w3⟩ := sh_int (k := .i64) (by kernel_rfl) g3
    obtain ⟨n4, e4, w4⟩ := sh_int (k := .i64) (by kernel_rfl) g4
    obtain ⟨n5, e5, w5⟩ := sh_int (k := .i64) (by kernel_rfl) g5
    simp at e0 e1 e2 e3 e4 e5
    subst e0 e1 e2 e3 e4 e5
    exact ⟨n0, n1, n2, n3, n4, n5, rfl, by have := bounds_u32 w0; unfold u32; omega⟩
theorem res_of_sh {D : Nat} {l : List SV} (h : Sh Tryz.prog (D + 3) 54 l) : ∃ s : Res, l = s.cs ∧ wfR s := by
  obtain ⟨h1, h2⟩ := sh_fields (ps := [(0, 3), (1, 3), (2, 3), (3, 3), (4, 50), (5, 3), (6, 3), (7, 3), (8, 4), (9, 4), (10, 3), (11, 52)]) (by kernel_rfl) (by kernel_rfl) h
  have hc : Tryz.prog.cellsOf 54 = 17 := by kernel_rfl
  have c1 : Tryz.prog.cellsOf 3 = 1 := by kernel_rfl
  have c2 : Tryz.prog.cellsOf 50 = 1 := by kernel_rfl
  have c3 : Tryz.prog.cellsOf 4 = 1 := by kernel_rfl
  have c4 : Tryz.prog.cellsOf 52 = 6 := by kernel_rfl
  rw [hc] at h1
  match l, h1 with
  | [x0, x1, x2, x3, x4, x5, x6, x7, x8, x9, x10, x11, x12, x13, x14, x15, x16], _ =>
    have g0 := h2 (0, 3) (by simp)
    have g1 := h2 (1, 3) (by simp)
    have g2 := h2 (2, 3) (by simp)
    have g3 := h2 (3, 3) (by simp)
    have g4 := h2 (4, 50) (by simp)
    have g5 := h2 (5, 3) (by simp)
    have g6 := h2 (6, 3) (by simp)
    have g7 := h2 (7, 3) (by simp)
    have g8 := h2 (8, 4) (by simp)
    have g9 := h2 (9, 4) (by simp)
    have g10 := h2 (10, 3) (by simp)
    have g11 := h2 (11, 52) (by simp)
    simp only [c1, c2, c3, c4] at g0 g1 g2 g3 g4 g5 g6 g7 g8 g9 g10 g11
    obtain ⟨n0, e0, w0⟩ := sh_int (k := .i64) (by kernel_rfl) g0
    obtain ⟨n1, e1, w1⟩ := sh_int (k := .i64) (by kernel_rfl) g1
    obtain ⟨n2, e2, w2⟩ := sh_int (k := .i64) (by kernel_rfl) g2
    obtain ⟨n3, e3, w3⟩ := sh_int (k := .i64) (by kernel_rfl) g3
    obtain ⟨n4, e4, w4⟩ := sh_int (k := .u32) (by kernel_rfl) g4
    obtain ⟨n5, e5, w5⟩ := sh_int (k := .i64) (by kernel_rfl) g5
    obtain ⟨n6, e6, w6⟩ := sh_int (k := .i64) (by kernel_rfl) g6
    obtain ⟨n7, e7, w7⟩ := sh_int (k := .i64) (by kernel_rfl) g7
    obtain ⟨n8, e8⟩ := sh_bool (by kernel_rfl) g8
    obtain ⟨n9, e9⟩ := sh_bool (by kernel_rfl) g9
    obtain ⟨n10, e10, w10⟩ := sh_int (k := .i64) (by kernel_rfl) g10
    obtain ⟨a, b, c, d, e, f, e11, w11⟩ := ans_of_sh g11
    simp at e0 e1 e2 e3 e4 e5 e6 e7 e8 e9 e10 e11
    obtain ⟨q1, q2, q3, q4, q5, q6⟩ := e11
    subst e0 e1 e2 e3 e4 e5 e6 e7 e8 e9 e10 q1 q2 q3 q4 q5 q6
    exact ⟨⟨n0, n1, n2, n3, n4, n5, n6, n7, n8, n9, n10, a, b, c, d, e, f⟩, rfl, by have := bounds_u32 w4; show u32 n4; unfold u32; omega, w11⟩
theorem res_rd {n : Nat} {rd : Nat → Nat → SV} (xs : List Res) (h : rdEq xs.length 17 rd fun i j => (Res.cs (xs.getD i default)).getD j default) : rdEq xs.length 17 rd (resRd xs.toArray) := fun i j hi hj => by
  rw [h i j hi hj]
  unfold resRd
  rw [List.getElem!_toArray]
  simp [List.getD, getElem!_def, hi]
end Go.Proofs.YtkpmihaaijiihaaGreat
