/- The evaluator, part T: a call that turns one object of its caller's, and is handed functions that look at others. -/
import Derived.Test.YthhofjkbmnklmaaEngR
import Derived.Test.YthhofjkbmnklmaaUniM
import Derived.Test.YthhofjkbmnklmaaChkM
import Derived.Test.YthhofjkbmnklmaaCodesR
import Derived.WalkKit
import Derived.Test.YthhofjkbmnklmaaEngL
import Derived.Test.YthhofjkbmnklmaaMem
import Derived.OpenShut
import Derived.ChangeArms
import Derived.ChangeSame
import Derived.Test.YthhofjkbmnklmaaRows
import Derived.ProofKit
import Derived.ShutString
import Derived.ChangeOld
import Derived.Below
import Derived.JoinedCond
set_option linter.unusedSimpArgs false
set_option linter.unusedVariables false
namespace Go.Proofs.Ythhofjkbmnklmaa
namespace Eng
section
variable {P : Program} {F : Frm} {st : St} {k : St → Prop} {dst : Option Tmp} {ds : List (Option Tmp)} {rest : List Oper} {R0 R : Nat → Prop} {w0 : Org} {w : World} {ob : Nat} {a : Act}
theorem lend_get {own : List Own} {id i : Nat} {o : Own} (ho : (own.set id .gone)[i]? = some o) : o = .gone ∨ (id ≠ i ∧ own[i]? = some o) := by
  rw [List.getElem?_set] at ho
  split at ho
  · split at ho
    · left; simpa using ho.symm
    · cases ho
  · rename_i hne
    exact .inr ⟨hne, ho⟩
theorem RelR.lend (h : RelR F R0 w0 ob R st a w) (id : Nat) : RelR F R0 w0 ob R { st with own := st.own.set id .gone } a w := by
  refine ⟨h.defers, h.env, h.size, fun i o ho => ?_, fun i j o o' hij ho ho' b hb => ?_, h.evo, h.inv, h.obM, fun i o ho b hb => ?_, h.obw, h.rr, h.r0⟩
  · rcases lend_get ho with rfl | ⟨_, h1⟩
    · trivial
    · exact h.own i o h1
  · rcases lend_get ho with rfl | ⟨_, h1⟩
    · cases hb
    · rcases lend_get ho' with rfl | ⟨_, h2⟩
      · exact fun e => by cases e
      · exact h.dist i j o o' hij h1 h2 b hb
  · rcases lend_get ho with rfl | ⟨_, h1⟩
    · cases hb
    · exact h.gb i o h1 b hb

/-- an argument beside an object that is handed over: a function may look at other objects -/
def argF (id : Nat) (own : List Own) : SV → SV
  | .fn f n rd => .fn f n fun j => roPtr (own.set id .gone) (rd j)
  | s => argM id s
theorem argF_ok (h : RelR F R0 w0 ob R st a w) (id : Nat) {s : SV} (hs : s.ok R w) : (argF id st.own s).den = s.den ∧ (argF id st.own s).ok (withOwn { st with own := st.own.set id .gone } R) w := by
  have aux : ∀ s : SV, s.ok R w → (argM id s).den = s.den ∧ (argM id s).ok (withOwn { st with own := st.own.set id .gone } R) w := fun s hs => ⟨argM_den id s, SV.ok_mono (fun _ h => .inl h) (fun _ _ => rfl) _ (argM_ok hs)⟩
  cases s with
  | fn f n rd =>
    refine ⟨?_, fun j hj => (roPtr_ok (h.lend id) (hs j hj)).2⟩
    simp only [argF, SV.den]
    congr 2
    apply List.map_congr_left
    intro j hj
    exact (roPtr_ok (h.lend id) (hs j (by simpa using hj))).1
  | _ => (simp only [argF]; exact aux _ hs)
/-- a row of plain data -/
def plainRow : Own → Prop
  | .row _ _ len _ sz rd => ∀ i j, i < len → j < sz → plainS (rd i j) = true
  | _ => False
theorem callK_mutF {f : FuncId} {args : List SV} {post : SV → Own → Prop} (id : Nat) {o0 : Own} (hid : st.own[id]? = some o0) (h : ContractM F P f (args.map (argF id st.own)) o0 post)
    (hpl : ∀ r o1, post r o1 → okM r = true ∧ plainRow o1) (hk : ∀ r o1, post r o1 → k (St.put { st with own := st.own.set id o1 } dst (renM id r))) : CallK P F f args st dst k := by
  intro R0 w0 ob R a w hr hargs
  refine ⟨h.enters, ?_⟩
  have hden : (args.map (argF id st.own)).map SV.den = args.map SV.den := by
    rw [List.map_map]
    exact List.map_congr_left fun s hs => (argF_ok hr id (hargs s hs)).1
  have hidl : id < st.own.length := (List.getElem?_eq_some_iff.1 hid).1
  have hc := h.calls (withOwn { st with own := st.own.set id .gone } R) w ob hr.inv hr.obM hr.obw (Own.ok_keep (hr.own id o0 hid) (fun b hb => .inl hb) (fun b hb hb' => by
      rcases hb' with hb' | ⟨i, o, ho, hb'⟩
      · exact hb'
      · rcases lend_get ho with rfl | ⟨hne, h1⟩
        · cases hb'
        · exact absurd hb' (hr.dist id i o0 o hne hid h1 b hb)) (fun _ _ => rfl) (fun _ _ => rfl)) (fun s' hs' => by
    obtain ⟨s, hs, rfl⟩ := List.mem_map.1 hs'
    exact (argF_ok hr id (hargs s hs)).2) (withOwn_lt (hr.lend id))
  rw [hden] at hc
  refine hc.mono ?_
  rintro e w' ⟨r, o1, R', rfl, hpost, hRR, hR', hrok, hblk, ho1, hevo, hinv⟩
  obtain ⟨hrp, hop⟩ := hpl r o1 hpost
  have hrok2 : r.ok R w' := by
    unfold okM at hrp
    split at hrp
    · trivial
    · exact ok_plain hrp _ _
  refine ⟨renM id r, { st with own := st.own.set id o1 }, R, by rw [renM_den], hk r o1 hpost, renM_ok hrok2, ?_, rfl⟩
  have hRb : ∀ b, R b → w'.heap[b]? = w.heap[b]? := fun b hb => hevo.block b (hr.rr b hb).1 (fun hm => by
    rcases hm with hm | hm
    · exact (hr.rr b hb).2.1 hm
    · exact (Own.blk_lt (hr.own id o0 hid) hm).2.2 hb)
  have hother : ∀ (i : Nat) (o : Own), id ≠ i → st.own[i]? = some o → ∀ b, o.blk = some b → w'.heap[b]? = w.heap[b]? := fun i o hne ho b hb => by
    obtain ⟨h1, h2, _⟩ := Own.blk_lt (hr.own i o ho) hb
    exact hevo.block b h2 (fun hm => by
      rcases hm with hm | hm
      · have := hr.ltM hm; omega
      · exact hr.dist id i o0 o hne hid ho b hm hb)
  refine ⟨hr.defers, fun t s ht => ⟨(hr.env t s ht).1, SV.ok_mono (fun _ h => h) hRb s (hr.env t s ht).2⟩, hr.size, ?_, ?_, ?_, hinv, hr.obM, ?_, Nat.le_trans hr.obw hevo.size, ?_, hr.r0⟩
  · intro i x hx
    rw [List.getElem?_set] at hx
    split at hx
    · rename_i e
      subst e
      simp only [hidl, if_true, Option.some.injEq] at hx
      subst hx
      cases o1 with
      | row a e len cap sz rd => exact ⟨ho1.1, fun g hg hb => ho1.2.1 g hg (hRR _ (.inl hb)), fun i j hi hj => ⟨(ho1.2.2 i j hi hj).1, ok_plain (hop i j hi hj) _ _⟩⟩
      | _ => exact hop.elim
    · rename_i hne
      exact Own.ok_keep (hr.own i x hx) (fun _ h => h) (fun b hb hb' => hb') hRb (hother i x hne hx)
  · intro i j x y hij hx hy b hb1 hb2
    rw [List.getElem?_set] at hx hy
    split at hx <;> split at hy
    · omega
    · rename_i e hne
      subst e
      simp only [hidl, if_true, Option.some.injEq] at hx
      subst hx
      exact hr.dist id j o0 y hij hid hy b (hblk b hb1) hb2
    · rename_i hne e
      subst e
      simp only [hidl, if_true, Option.some.injEq] at hy
      subst hy
      exact hr.dist i id x o0 hij hx hid b hb1 (hblk b hb2)
    · exact hr.dist i j x y hij hx hy b hb1 hb2
  · exact ⟨hevo.os.trans hr.evo.os, hevo.tape.trans hr.evo.tape, hevo.output.trans hr.evo.output, Nat.le_trans hr.evo.size hevo.size, fun b hb hm => (hevo.block b (Nat.lt_of_lt_of_le hb hr.evo.size) (fun h9 => by
      rcases h9 with h9 | h9
      · exact hm (.inl h9)
      · rcases hr.gb id o0 hid b h9 with h8 | h8
        · omega
        · exact hm (.inr h8))).trans (hr.evo.block b hb hm)⟩
  · exact gb_set (m := w0.w.heap.size) (Nat.le_refl _) hr.gb hid fun b hb => .inl (hblk b hb)
  · intro b hb
    obtain ⟨g1, g2, g3⟩ := hr.rr b hb
    exact ⟨Nat.lt_of_lt_of_le g1 hevo.size, g2, g3⟩

theorem wcall_mutF {F : Frm} {n : Nat} {env : List (Nat × SV)} {own : List Own} {f : FuncId} {args args' : List SV} {post : SV → Own → Prop} (id : Nat) {o0 : Own} (h : ContractM F P f args' o0 post) (hpl : ∀ r o1, post r o1 → okM r = true ∧ plainRow o1) (hid : own[id]? = some o0) (ha : args.map (argF id own) = args')
    (hk : ∀ r o1, post r o1 → WO P F ds rest (St.put ⟨n, env, own.set id o1⟩ dst (renM id r)) k) : WCall P F ds rest dst ⟨n, env, own⟩ f (some args) k := by
  unfold WCall
  exact callK_mutF (st := ⟨n, env, own⟩) (k := fun st' => WO P F ds rest st' k) id hid (by rw [ha]; exact h) hpl hk
end
end Eng
end Go.Proofs.Ythhofjkbmnklmaa

/- Results up to a time, by the evaluator: slices.IndexFunc, slices.DeleteFunc, merge.Until. -/
set_option linter.unusedSimpArgs false
set_option linter.unusedVariables false
namespace Go.Proofs.Ythhofjkbmnklmaa
open Go.Sort Eng

/-- a function (with what it has captured) that answers p -/
def resDel (g : FuncId) (cc : Nat → SV) (p : Res → Bool) : Prop := (∀ own, roArg own (cc 0) = cc 0 ∧ (fun j => roPtr own (cc j)) = cc) ∧ ∀ x F, Contract F Try.prog g [resAg x, cc 0] (fun r => r = .b (p x))
theorem res_plain (d : Array Res) (i j : Nat) (h : j < 17) : plainS (resRd d i j) = true := by
  rcases (show j = 0 ∨ j = 1 ∨ j = 2 ∨ j = 3 ∨ j = 4 ∨ j = 5 ∨ j = 6 ∨ j = 7 ∨ j = 8 ∨ j = 9 ∨ j = 10 ∨ j = 11 ∨ j = 12 ∨ j = 13 ∨ j = 14 ∨ j = 15 ∨ j = 16 by omega) with rfl | rfl | rfl | rfl | rfl | rfl | rfl | rfl | rfl | rfl | rfl | rfl | rfl | rfl | rfl | rfl | rfl <;> rfl

set_option maxRecDepth 100000 in
theorem untilFnC (F : Frm) (x : Res) (blk : Nat) (n : Int) : Contract F Try.prog 49 [resAg x, .el ⟨blk, 0, none⟩ 1 (fun j => [SV.i .i64 n].getD (0 + j) default)] (fun r => r = .b (decide (n < x.back))) := by
  refine contract_of Try.func49 rfl (by kernel_rfl) ?_
  simp only [Try.ntmps49, argEnv, resAg, Res.cs]
  (repeat refine Sat.seq ?_)
  (refine Sat.region_k fun k hk => ?_; simp -implicitDefEqProofs only [evr, id, reduceCtorEq, reduceIte, Nat.reduceMul, Nat.reduceAdd, Nat.reduceLT, Nat.reduceLeDiff, Nat.reduceEqDiff, Int.reduceLT, Int.reduceBEq, Int.reduceBNe, Nat.reduceBEq, res_one, res_ro, List.append_nil, Int.toNat_zero, Nat.sub_self, resRow])
  intro blk2
  (refine hk _ ?_; clear hk k; try show Sat _ _ _ _ _)
  (repeat refine Sat.seq ?_)
  (refine Sat.region_k fun k hk => ?_; simp -implicitDefEqProofs only [evr, id, reduceCtorEq, reduceIte, Nat.reduceMul, Nat.reduceAdd, Nat.reduceLT, Nat.reduceLeDiff, Nat.reduceEqDiff, Int.reduceLT, Int.reduceBEq, Int.reduceBNe, Nat.reduceBEq, res_one, res_ro, List.append_nil, Int.toNat_zero, Nat.sub_self, resRow]; refine hk _ ?_; clear hk k; try show Sat _ _ _ _ _)
  refine Sat.ret ?_
  simp only [Try.results49, evr, id, reduceCtorEq, reduceIte, Nat.reduceMul, Nat.reduceAdd, Nat.reduceLT, Nat.reduceLeDiff, Nat.reduceEqDiff, Int.reduceLT, Int.reduceBEq, Int.reduceBNe, Nat.reduceBEq, res_one, res_ro, List.append_nil, Int.toNat_zero, Nat.sub_self, resRow]

set_option maxRecDepth 100000 in
theorem indexFuncC (F : Frm) (g : FuncId) (cc : Nat → SV) (p : Res → Bool) (hg : resDel g cc p) (a : Option Addr) (cap : Nat) (d : Array Res) (hl : d.size ≤ 1000000000) :
    Contract F Try.prog 65 [.sl a d.size cap 17 (resRd d), .fn g 1 cc] (fun r => (r = .i .i64 (-1) ∧ ∀ q, q < d.size → p d[q]! = false) ∨ ∃ i : Nat, i < d.size ∧ p d[i]! = true ∧ (∀ q, q < i → p d[q]! = false) ∧ r = .i .i64 i) := by
  obtain ⟨hg1, hg2⟩ := hg
  refine contract_of Try.func65 rfl (by kernel_rfl) ?_
  simp only [Try.ntmps65, argEnv]
  (repeat refine Sat.seq ?_)
  (refine Sat.region_k fun k hk => ?_; simp -implicitDefEqProofs only [evr, id, reduceCtorEq, reduceIte, Nat.reduceMul, Nat.reduceAdd, Nat.reduceLT, Nat.reduceLeDiff, Nat.reduceEqDiff, Int.reduceLT, Int.reduceBEq, Int.reduceBNe, Nat.reduceBEq, res_one, res_ro, List.append_nil, Int.toNat_zero, Nat.sub_self, resRow]; refine hk _ ?_; clear hk k; try show Sat _ _ _ _ _)
  (repeat refine Sat.seq ?_)
  (refine Sat.region_k fun k hk => ?_; simp -implicitDefEqProofs only [evr, id, reduceCtorEq, reduceIte, Nat.reduceMul, Nat.reduceAdd, Nat.reduceLT, Nat.reduceLeDiff, Nat.reduceEqDiff, Int.reduceLT, Int.reduceBEq, Int.reduceBNe, Nat.reduceBEq, res_one, res_ro, List.append_nil, Int.toNat_zero, Nat.sub_self, resRow]; refine hk _ ?_; clear hk k; try show Sat _ _ _ _ _)
  (repeat refine Sat.seq ?_)
  refine Sat.block ?_
  refine Sat.loop (ι := Nat) (fun i => ⟨19, [(8, .i .i64 i), (7, .i .i64 d.size), (0, .sl a d.size cap 17 (resRd d)), (1, .fn g 1 cc)], []⟩)
    (fun i => i ≤ d.size ∧ ∀ q, q < i → p d[q]! = false) (fun i => d.size - i) 0 ⟨Nat.zero_le _, fun q h => by omega⟩ (by simp -implicitDefEqProofs only [evr, id, reduceCtorEq, reduceIte, Nat.reduceMul, Nat.reduceAdd, Nat.reduceLT, Nat.reduceLeDiff, Nat.reduceEqDiff, Int.reduceLT, Int.reduceBEq, Int.reduceBNe, Nat.reduceBEq, res_one, res_ro, List.append_nil, Int.toNat_zero, Nat.sub_self, resRow, evl]; first | rfl | trace_state) ?_
  rintro i ⟨hi, hq⟩
  (repeat refine Sat.seq ?_)
  (refine Sat.region_k fun k hk => ?_; simp -implicitDefEqProofs only [evr, id, reduceCtorEq, reduceIte, Nat.reduceMul, Nat.reduceAdd, Nat.reduceLT, Nat.reduceLeDiff, Nat.reduceEqDiff, Int.reduceLT, Int.reduceBEq, Int.reduceBNe, Nat.reduceBEq, res_one, res_ro, List.append_nil, Int.toNat_zero, Nat.sub_self, resRow]; refine hk _ ?_; clear hk k; try show Sat _ _ _ _ _)
  (repeat refine Sat.seq ?_)
  refine Sat.cond_b rfl (fun h => ?_) (fun h => ?_)
  · have h1 : i < d.size := by simp only [decide_eq_true_eq] at h; omega
    have e3 : IntKind.i64.wrap ((i : Int) + 1) = ((i + 1 : Nat) : Int) := by rw [w64 (by omega)]; omega
    refine Sat.skip ?_
    simp only [thenK]
    (repeat refine Sat.seq ?_)
    refine Sat.block ?_
    (repeat refine Sat.seq ?_)
    (refine Sat.region_k fun k hk => ?_; simp -implicitDefEqProofs only [evr, id, reduceCtorEq, reduceIte, Nat.reduceMul, Nat.reduceAdd, Nat.reduceLT, Nat.reduceLeDiff, Nat.reduceEqDiff, Int.reduceLT, Int.reduceBEq, Int.reduceBNe, Nat.reduceBEq, res_one, res_ro, List.append_nil, Int.toNat_zero, Nat.sub_self, resRow]; refine hk _ ?_; clear hk k; try show Sat _ _ _ _ _)
    (repeat refine Sat.seq ?_)
    (refine Sat.region_k fun k hk => ?_; simp -implicitDefEqProofs only [evr, id, reduceCtorEq, reduceIte, Nat.reduceMul, Nat.reduceAdd, Nat.reduceLT, Nat.reduceLeDiff, Nat.reduceEqDiff, Int.reduceLT, Int.reduceBEq, Int.reduceBNe, Nat.reduceBEq, res_one, res_ro, List.append_nil, Int.toNat_zero, Nat.sub_self, resRow])
    refine ⟨by omega, ?_⟩
    refine wcall_plain (hg2 d[i]! F) (by simp -implicitDefEqProofs only [evr, id, reduceCtorEq, reduceIte, Nat.reduceMul, Nat.reduceAdd, Nat.reduceLT, Nat.reduceLeDiff, Nat.reduceEqDiff, Int.reduceLT, Int.reduceBEq, Int.reduceBNe, Nat.reduceBEq, res_one, res_ro, List.append_nil, Int.toNat_zero, Nat.sub_self, resRow, (hg1 _).1]; rfl) (by rintro _ rfl; exact ok_plain rfl) ?_
    rintro r rfl
    simp -implicitDefEqProofs only [evr, id, reduceCtorEq, reduceIte, Nat.reduceMul, Nat.reduceAdd, Nat.reduceLT, Nat.reduceLeDiff, Nat.reduceEqDiff, Int.reduceLT, Int.reduceBEq, Int.reduceBNe, Nat.reduceBEq, res_one, res_ro, List.append_nil, Int.toNat_zero, Nat.sub_self, resRow]
    (refine hk _ ?_; clear hk k; try show Sat _ _ _ _ _)
    refine Sat.cond_b rfl (fun h2 => ?_) (fun h2 => ?_)
    · (repeat refine Sat.seq ?_)
      (refine Sat.region_k fun k hk => ?_; simp -implicitDefEqProofs only [evr, id, reduceCtorEq, reduceIte, Nat.reduceMul, Nat.reduceAdd, Nat.reduceLT, Nat.reduceLeDiff, Nat.reduceEqDiff, Int.reduceLT, Int.reduceBEq, Int.reduceBNe, Nat.reduceBEq, res_one, res_ro, List.append_nil, Int.toNat_zero, Nat.sub_self, resRow]; refine hk _ ?_; clear hk k; try show Sat _ _ _ _ _)
      refine Sat.ret ?_
      simp only [blockK, Try.results65, evr, id, reduceCtorEq, reduceIte, Nat.reduceMul, Nat.reduceAdd, Nat.reduceLT, Nat.reduceLeDiff, Nat.reduceEqDiff, Int.reduceLT, Int.reduceBEq, Int.reduceBNe, Nat.reduceBEq, res_one, res_ro, List.append_nil, Int.toNat_zero, Nat.sub_self, resRow]
      exact .inr ⟨i, h1, h2, hq, rfl⟩
    · refine Sat.skip ?_
      simp only [thenK, blockK]
      refine Sat.region_k fun k hk => ?_
      simp -implicitDefEqProofs only [evr, id, reduceCtorEq, reduceIte, Nat.reduceMul, Nat.reduceAdd, Nat.reduceLT, Nat.reduceLeDiff, Nat.reduceEqDiff, Int.reduceLT, Int.reduceBEq, Int.reduceBNe, Nat.reduceBEq, res_one, res_ro, List.append_nil, Int.toNat_zero, Nat.sub_self, resRow, e3]
      refine hk _ ?_
      simp only [thenK, blockK]
      refine ⟨i + 1, ⟨h1, fun q hq2 => ?_⟩, by omega, ?_⟩
      · by_cases e : q = i
        · subst e; exact h2
        · exact hq q (by omega)
      · simp -implicitDefEqProofs only [evr, id, reduceCtorEq, reduceIte, Nat.reduceMul, Nat.reduceAdd, Nat.reduceLT, Nat.reduceLeDiff, Nat.reduceEqDiff, Int.reduceLT, Int.reduceBEq, Int.reduceBNe, Nat.reduceBEq, res_one, res_ro, List.append_nil, Int.toNat_zero, Nat.sub_self, resRow, evl]
  · have h1 : i = d.size := by simp only [decide_eq_false_iff_not] at h; omega
    subst h1
    refine Sat.exit ?_
    simp only [thenK, blockK, reduceIte]
    (repeat refine Sat.seq ?_)
    (refine Sat.region_k fun k hk => ?_; simp -implicitDefEqProofs only [evr, id, reduceCtorEq, reduceIte, Nat.reduceMul, Nat.reduceAdd, Nat.reduceLT, Nat.reduceLeDiff, Nat.reduceEqDiff, Int.reduceLT, Int.reduceBEq, Int.reduceBNe, Nat.reduceBEq, res_one, res_ro, List.append_nil, Int.toNat_zero, Nat.sub_self, resRow]; refine hk _ ?_; clear hk k; try show Sat _ _ _ _ _)
    refine Sat.ret ?_
    simp only [Try.results65, evr, id, reduceCtorEq, reduceIte, Nat.reduceMul, Nat.reduceAdd, Nat.reduceLT, Nat.reduceLeDiff, Nat.reduceEqDiff, Int.reduceLT, Int.reduceBEq, Int.reduceBNe, Nat.reduceBEq, res_one, res_ro, List.append_nil, Int.toNat_zero, Nat.sub_self, resRow]
    exact .inl hq

theorem filter_take (d : Array Res) (p : Res → Bool) (j : Nat) (h : j < d.size) : (d.toList.take (j + 1)).filter (fun x => !p x) = if p d[j]! = true then (d.toList.take j).filter (fun x => !p x) else (d.toList.take j).filter (fun x => !p x) ++ [d[j]!] := by
  have hl : j < d.toList.length := by simpa using h
  rw [List.take_succ_eq_append_getElem hl, List.filter_append]
  have e1 : d[j]! = d.toList[j] := by simp [getElem!_def, h]
  rw [e1]
  cases hp : p d.toList[j]
  · rw [List.filter_cons_of_pos (by simp only [hp, Bool.not_false])]; simp
  · rw [List.filter_cons_of_neg (by simp only [hp, Bool.not_true]; decide)]; simp
theorem filter_none (d : Array Res) (p : Res → Bool) (j : Nat) (h : j ≤ d.size) (hq : ∀ q, q < j → p d[q]! = false) : (d.toList.take j).filter (fun x => !p x) = d.toList.take j := by
  rw [List.filter_eq_self]
  intro x hx
  obtain ⟨q, hq2, rfl⟩ := List.getElem_of_mem hx
  have h2 : q < j ∧ q < d.size := by rw [List.length_take] at hq2; simp at hq2; omega
  have := hq q h2.1
  rw [getElem!_pos d q h2.2] at this
  simpa using this
theorem del_row {ad : Option Addr} {N N' cap : Nat} (d d' : Array Res) : (resRow ad N cap d').blk = (resRow ad N' cap d).blk := by cases ad <;> rfl
def delL (p : Res → Bool) (d : Array Res) : List Res := d.toList.filter fun x => !p x

set_option maxRecDepth 100000 in
theorem deleteC (F : Frm) (g : FuncId) (cc : Nat → SV) (p : Res → Bool) (hg : resDel g cc p) (ad : Option Addr) (cap N : Nat) (hN : N ≤ 1000000000) (d : Array Res) (hd : d.size = N) :
    ContractM F Try.prog 48 [.os 0 ad N cap, .fn g 1 cc] (resRow ad N cap d)
      (fun r o1 => r = .os 0 ad (delL p d).length cap ∧ o1 = resRow ad (delL p d).length cap (delL p d).toArray) := by
  refine contractM_of Try.func48 rfl (by kernel_rfl) (by rintro r o1 ⟨_, rfl⟩; exact del_row _ _) ?_
  simp only [Try.ntmps48, argEnv]
  refine Sat.know_row 0 rfl fun hcap => ?_
  (repeat refine Sat.seq ?_)
  (refine Sat.region_k fun k hk => ?_; simp -implicitDefEqProofs only [evr, id, reduceCtorEq, reduceIte, Nat.reduceMul, Nat.reduceAdd, Nat.reduceLT, Nat.reduceLeDiff, Nat.reduceEqDiff, Int.reduceLT, Int.reduceBEq, Int.reduceBNe, Nat.reduceBEq, res_one, res_ro, List.append_nil, Int.toNat_zero, Nat.sub_self, resRow]; refine hk _ ?_; clear hk k; try show Sat _ _ _ _ _)
  (repeat refine Sat.seq ?_)
  subst hd
  (refine Sat.region_k fun k hk => ?_; simp -implicitDefEqProofs only [evr, id, reduceCtorEq, reduceIte, Nat.reduceMul, Nat.reduceAdd, Nat.reduceLT, Nat.reduceLeDiff, Nat.reduceEqDiff, Int.reduceLT, Int.reduceBEq, Int.reduceBNe, Nat.reduceBEq, res_one, res_ro, List.append_nil, Int.toNat_zero, Nat.sub_self, resRow])
  have hg1 := hg.1
  refine wcall_plain (indexFuncC F g cc p hg ad cap d (by omega)) (by simp -implicitDefEqProofs only [evr, id, reduceCtorEq, reduceIte, Nat.reduceMul, Nat.reduceAdd, Nat.reduceLT, Nat.reduceLeDiff, Nat.reduceEqDiff, Int.reduceLT, Int.reduceBEq, Int.reduceBNe, Nat.reduceBEq, res_one, res_ro, List.append_nil, Int.toNat_zero, Nat.sub_self, resRow, (hg1 _).2]) (by rintro _ (⟨rfl, _⟩ | ⟨i, _, _, _, rfl⟩) <;> exact ok_plain rfl) ?_
  rintro r (⟨rfl, hq⟩ | ⟨i, hi, hpi, hq, rfl⟩)
  · simp -implicitDefEqProofs only [evr, id, reduceCtorEq, reduceIte, Nat.reduceMul, Nat.reduceAdd, Nat.reduceLT, Nat.reduceLeDiff, Nat.reduceEqDiff, Int.reduceLT, Int.reduceBEq, Int.reduceBNe, Nat.reduceBEq, res_one, res_ro, List.append_nil, Int.toNat_zero, Nat.sub_self, resRow]
    (refine hk _ ?_; clear hk k; try show Sat _ _ _ _ _)
    have hall : delL p d = d.toList := by
      have := filter_none d p d.size (Nat.le_refl _) hq
      rwa [List.take_of_length_le (by simp)] at this
    rw [hall]
    (repeat refine Sat.seq ?_)
    (refine Sat.region_k fun k hk => ?_; simp -implicitDefEqProofs only [evr, id, reduceCtorEq, reduceIte, Nat.reduceMul, Nat.reduceAdd, Nat.reduceLT, Nat.reduceLeDiff, Nat.reduceEqDiff, Int.reduceLT, Int.reduceBEq, Int.reduceBNe, Nat.reduceBEq, res_one, res_ro, List.append_nil, Int.toNat_zero, Nat.sub_self, resRow]; refine hk _ ?_; clear hk k; try show Sat _ _ _ _ _)
    (repeat refine Sat.seq ?_)
    refine Sat.cond_b rfl (fun _ => ?_) (fun h => absurd h (by decide))
    (repeat refine Sat.seq ?_)
    (refine Sat.region_k fun k hk => ?_; simp -implicitDefEqProofs only [evr, id, reduceCtorEq, reduceIte, Nat.reduceMul, Nat.reduceAdd, Nat.reduceLT, Nat.reduceLeDiff, Nat.reduceEqDiff, Int.reduceLT, Int.reduceBEq, Int.reduceBNe, Nat.reduceBEq, res_one, res_ro, List.append_nil, Int.toNat_zero, Nat.sub_self, resRow]; refine hk _ ?_; clear hk k; try show Sat _ _ _ _ _)
    refine Sat.ret ?_
    simp only [Try.results48, evr, id, reduceCtorEq, reduceIte, Nat.reduceMul, Nat.reduceAdd, Nat.reduceLT, Nat.reduceLeDiff, Nat.reduceEqDiff, Int.reduceLT, Int.reduceBEq, Int.reduceBNe, Nat.reduceBEq, res_one, res_ro, List.append_nil, Int.toNat_zero, Nat.sub_self, resRow]
    exact ⟨by simp [okM], _, _, rfl, by simp, by simp⟩
  · simp -implicitDefEqProofs only [evr, id, reduceCtorEq, reduceIte, Nat.reduceMul, Nat.reduceAdd, Nat.reduceLT, Nat.reduceLeDiff, Nat.reduceEqDiff, Int.reduceLT, Int.reduceBEq, Int.reduceBNe, Nat.reduceBEq, res_one, res_ro, List.append_nil, Int.toNat_zero, Nat.sub_self, resRow]
    (refine hk _ ?_; clear hk k; try show Sat _ _ _ _ _)
    have e1 : IntKind.i64.wrap ((i : Int) + 1) = ((i + 1 : Nat) : Int) := by rw [w64 (by omega)]; omega
    (repeat refine Sat.seq ?_)
    (refine Sat.region_k fun k hk => ?_; simp -implicitDefEqProofs only [evr, id, reduceCtorEq, reduceIte, Nat.reduceMul, Nat.reduceAdd, Nat.reduceLT, Nat.reduceLeDiff, Nat.reduceEqDiff, Int.reduceLT, Int.reduceBEq, Int.reduceBNe, Nat.reduceBEq, res_one, res_ro, List.append_nil, Int.toNat_zero, Nat.sub_self, resRow]; refine hk _ ?_; clear hk k; try show Sat _ _ _ _ _)
    (repeat refine Sat.seq ?_)
    refine Sat.cond_b rfl (fun h => absurd h (by simp)) (fun _ => ?_)
    refine Sat.skip ?_
    simp only [thenK]
    (repeat refine Sat.seq ?_)
    refine Sat.region_k fun k hk => ?_
    simp -implicitDefEqProofs only [evr, id, reduceCtorEq, reduceIte, Nat.reduceMul, Nat.reduceAdd, Nat.reduceLT, Nat.reduceLeDiff, Nat.reduceEqDiff, Int.reduceLT, Int.reduceBEq, Int.reduceBNe, Nat.reduceBEq, res_one, res_ro, List.append_nil, Int.toNat_zero, Nat.sub_self, resRow, e1]
    (refine hk _ ?_; clear hk k; try show Sat _ _ _ _ _)
    have hft := filter_take d p i hi
    rw [if_pos hpi, filter_none d p i (by omega) hq] at hft
    (repeat refine Sat.seq ?_)
    refine Sat.block ?_
    refine Sat.loop (ι := Nat × Nat × Array Res) (fun x => ⟨42, [(5, .i .i64 x.1), (6, .i .i64 x.2.1), (0, .os 0 ad d.size cap), (1, .fn g 1 cc)], [resRow ad d.size cap x.2.2]⟩)
      (fun x => x.1 < x.2.1 ∧ x.2.1 ≤ d.size ∧ x.2.2.size = d.size ∧ (∀ q, x.2.1 ≤ q → x.2.2[q]! = d[q]!) ∧ x.2.2.toList.take x.1 = (d.toList.take x.2.1).filter fun x => !p x) (fun x => d.size - x.2.1) (i, i + 1, d) ⟨Nat.lt_succ_self _, by show i + 1 ≤ d.size; omega, rfl, fun _ _ => rfl, hft.symm⟩ (by simp -implicitDefEqProofs only [evr, id, reduceCtorEq, reduceIte, Nat.reduceMul, Nat.reduceAdd, Nat.reduceLT, Nat.reduceLeDiff, Nat.reduceEqDiff, Int.reduceLT, Int.reduceBEq, Int.reduceBNe, Nat.reduceBEq, res_one, res_ro, List.append_nil, Int.toNat_zero, Nat.sub_self, resRow, evl]; first | rfl | trace_state) ?_
    rintro ⟨w, j, d2⟩ ⟨hw, hj, hd2, hq2, ht⟩
    simp only at hw hj hd2 hq2 ht ⊢
    have hsz : d2.toList.length = d.size := by simpa using hd2
    (repeat refine Sat.seq ?_)
    (refine Sat.region_k fun k hk => ?_; simp -implicitDefEqProofs only [evr, id, reduceCtorEq, reduceIte, Nat.reduceMul, Nat.reduceAdd, Nat.reduceLT, Nat.reduceLeDiff, Nat.reduceEqDiff, Int.reduceLT, Int.reduceBEq, Int.reduceBNe, Nat.reduceBEq, res_one, res_ro, List.append_nil, Int.toNat_zero, Nat.sub_self, resRow]; refine hk _ ?_; clear hk k; try show Sat _ _ _ _ _)
    (repeat refine Sat.seq ?_)
    refine Sat.cond_b rfl (fun h => ?_) (fun h => ?_)
    · have h1 : j < d.size := by simp only [decide_eq_true_eq] at h; omega
      have e2 : IntKind.i64.wrap ((j : Int) + 1) = ((j + 1 : Nat) : Int) := by rw [w64 (by omega)]; omega
      have e3 : IntKind.i64.wrap ((w : Int) + 1) = ((w + 1 : Nat) : Int) := by rw [w64 (by omega)]; omega
      have q1 := hq2 j (Nat.le_refl _)
      have hft2 := filter_take d p j h1
      refine Sat.skip ?_
      simp only [thenK]
      (repeat refine Sat.seq ?_)
      refine Sat.block ?_
      (repeat refine Sat.seq ?_)
      (refine Sat.region_k fun k hk => ?_; simp -implicitDefEqProofs only [evr, id, reduceCtorEq, reduceIte, Nat.reduceMul, Nat.reduceAdd, Nat.reduceLT, Nat.reduceLeDiff, Nat.reduceEqDiff, Int.reduceLT, Int.reduceBEq, Int.reduceBNe, Nat.reduceBEq, res_one, res_ro, List.append_nil, Int.toNat_zero, Nat.sub_self, resRow])
      refine ⟨by omega, by omega, ?_⟩
      intro blk
      (refine hk _ ?_; clear hk k; try show Sat _ _ _ _ _)
      have e5 : [resRd d2 j 0, resRd d2 j 1, resRd d2 j 2, resRd d2 j 3, resRd d2 j 4, resRd d2 j 5, resRd d2 j 6, resRd d2 j 7, resRd d2 j 8, resRd d2 j 9, resRd d2 j 10, resRd d2 j 11, resRd d2 j 12, resRd d2 j 13, resRd d2 j 14, resRd d2 j 15, resRd d2 j 16] = Res.cs d[j]! := by rw [← q1]; rfl
      rw [e5]
      simp only [Res.cs]
      (repeat refine Sat.seq ?_)
      (refine Sat.region_k fun k hk => ?_; simp -implicitDefEqProofs only [evr, id, reduceCtorEq, reduceIte, Nat.reduceMul, Nat.reduceAdd, Nat.reduceLT, Nat.reduceLeDiff, Nat.reduceEqDiff, Int.reduceLT, Int.reduceBEq, Int.reduceBNe, Nat.reduceBEq, res_one, res_ro, List.append_nil, Int.toNat_zero, Nat.sub_self, resRow])
      refine wcall_plain (hg.2 d[j]! F) (by simp -implicitDefEqProofs only [evr, id, reduceCtorEq, reduceIte, Nat.reduceMul, Nat.reduceAdd, Nat.reduceLT, Nat.reduceLeDiff, Nat.reduceEqDiff, Int.reduceLT, Int.reduceBEq, Int.reduceBNe, Nat.reduceBEq, res_one, res_ro, List.append_nil, Int.toNat_zero, Nat.sub_self, resRow, (hg1 _).1]; rfl) (by rintro _ rfl; exact ok_plain rfl) ?_
      rintro r rfl
      simp -implicitDefEqProofs only [evr, id, reduceCtorEq, reduceIte, Nat.reduceMul, Nat.reduceAdd, Nat.reduceLT, Nat.reduceLeDiff, Nat.reduceEqDiff, Int.reduceLT, Int.reduceBEq, Int.reduceBNe, Nat.reduceBEq, res_one, res_ro, List.append_nil, Int.toNat_zero, Nat.sub_self, resRow]
      (refine hk _ ?_; clear hk k; try show Sat _ _ _ _ _)
      (repeat refine Sat.seq ?_)
      refine Sat.cond_b rfl (fun h2 => ?_) (fun h2 => ?_)
      · have h3 : ¬ p d[j]! = true := by simpa using h2
        rw [if_neg h3] at hft2
        (repeat refine Sat.seq ?_)
        (refine Sat.region_k fun k hk => ?_; simp -implicitDefEqProofs only [evr, id, reduceCtorEq, reduceIte, Nat.reduceMul, Nat.reduceAdd, Nat.reduceLT, Nat.reduceLeDiff, Nat.reduceEqDiff, Int.reduceLT, Int.reduceBEq, Int.reduceBNe, Nat.reduceBEq, res_one, res_ro, List.append_nil, Int.toNat_zero, Nat.sub_self, resRow])
        refine ⟨by omega, by omega, ?_⟩
        (refine hk _ ?_; clear hk k; try show Sat _ _ _ _ _)
        (repeat refine Sat.seq ?_)
        refine Sat.region_k fun k hk => ?_
        simp -implicitDefEqProofs only [evr, id, reduceCtorEq, reduceIte, Nat.reduceMul, Nat.reduceAdd, Nat.reduceLT, Nat.reduceLeDiff, Nat.reduceEqDiff, Int.reduceLT, Int.reduceBEq, Int.reduceBNe, Nat.reduceBEq, res_one, res_ro, List.append_nil, Int.toNat_zero, Nat.sub_self, resRow, e3]
        refine hk _ ?_
        simp only [thenK, blockK]
        refine Sat.region_k fun k hk => ?_
        simp -implicitDefEqProofs only [evr, id, reduceCtorEq, reduceIte, Nat.reduceMul, Nat.reduceAdd, Nat.reduceLT, Nat.reduceLeDiff, Nat.reduceEqDiff, Int.reduceLT, Int.reduceBEq, Int.reduceBNe, Nat.reduceBEq, res_one, res_ro, List.append_nil, Int.toNat_zero, Nat.sub_self, resRow, e2]
        refine hk _ ?_
        simp only [thenK, blockK]
        have ea := res_set hd2 (show w < d.size by omega) j
        have e6 : (List.range 17).map (resRd d2 j) = Res.cs d[j]! := by rw [← q1]; rfl
        rw [e6, q1] at ea
        refine ⟨(w + 1, j + 1, d2.setIfInBounds w d[j]!), ⟨by simp only; omega, by simp only; omega, by simp [hd2], fun q hq' => ?_, ?_⟩, by simp only; omega, ?_⟩
        · have hne : w ≠ q := by simp only at hq'; omega
          have := hq2 q (by simp only at hq'; omega)
          rw [← this]
          simp [getElem!_def, hne]
        · show (d2.setIfInBounds w d[j]!).toList.take (w + 1) = (d.toList.take (j + 1)).filter fun x => !p x
          rw [hft2, ← ht, Array.toList_setIfInBounds, List.take_succ_eq_append_getElem (by simp; omega), List.take_set_of_le (Nat.le_refl _)]
          simp
        · simp -implicitDefEqProofs only [evr, id, reduceCtorEq, reduceIte, Nat.reduceMul, Nat.reduceAdd, Nat.reduceLT, Nat.reduceLeDiff, Nat.reduceEqDiff, Int.reduceLT, Int.reduceBEq, Int.reduceBNe, Nat.reduceBEq, res_one, res_ro, List.append_nil, Int.toNat_zero, Nat.sub_self, resRow, evl]
          exact ea
      · have h3 : p d[j]! = true := by simpa using h2
        rw [if_pos h3] at hft2
        refine Sat.skip ?_
        simp only [thenK, blockK]
        refine Sat.region_k fun k hk => ?_
        simp -implicitDefEqProofs only [evr, id, reduceCtorEq, reduceIte, Nat.reduceMul, Nat.reduceAdd, Nat.reduceLT, Nat.reduceLeDiff, Nat.reduceEqDiff, Int.reduceLT, Int.reduceBEq, Int.reduceBNe, Nat.reduceBEq, res_one, res_ro, List.append_nil, Int.toNat_zero, Nat.sub_self, resRow, e2]
        refine hk _ ?_
        simp only [thenK, blockK]
        refine ⟨(w, j + 1, d2), ⟨by simp only; omega, by simp only; omega, hd2, fun q hq' => hq2 q (by simp only at hq'; omega), by rw [hft2]; exact ht⟩, by simp only; omega, ?_⟩
        simp -implicitDefEqProofs only [evr, id, reduceCtorEq, reduceIte, Nat.reduceMul, Nat.reduceAdd, Nat.reduceLT, Nat.reduceLeDiff, Nat.reduceEqDiff, Int.reduceLT, Int.reduceBEq, Int.reduceBNe, Nat.reduceBEq, res_one, res_ro, List.append_nil, Int.toNat_zero, Nat.sub_self, resRow, evl]
    · have h1 : j = d.size := by simp only [decide_eq_false_iff_not] at h; omega
      subst h1
      have hfin : delL p d = d2.toList.take w := by rw [ht, List.take_of_length_le (by simp)]; rfl
      have hlen : (delL p d).length = w := by rw [hfin, List.length_take]; omega
      refine Sat.exit ?_
      simp only [thenK, blockK, reduceIte]
      (repeat refine Sat.seq ?_)
      (refine Sat.region_k fun k hk => ?_; simp -implicitDefEqProofs only [evr, id, reduceCtorEq, reduceIte, Nat.reduceMul, Nat.reduceAdd, Nat.reduceLT, Nat.reduceLeDiff, Nat.reduceEqDiff, Int.reduceLT, Int.reduceBEq, Int.reduceBNe, Nat.reduceBEq, res_one, res_ro, List.append_nil, Int.toNat_zero, Nat.sub_self, resRow])
      refine ⟨by omega, ⟨by omega, by omega⟩, ?_⟩
      (refine hk _ ?_; clear hk k; try show Sat _ _ _ _ _)
      (repeat refine Sat.seq ?_)
      (refine Sat.region_k fun k hk => ?_; simp -implicitDefEqProofs only [evr, id, reduceCtorEq, reduceIte, Nat.reduceMul, Nat.reduceAdd, Nat.reduceLT, Nat.reduceLeDiff, Nat.reduceEqDiff, Int.reduceLT, Int.reduceBEq, Int.reduceBNe, Nat.reduceBEq, res_one, res_ro, List.append_nil, Int.toNat_zero, Nat.sub_self, resRow])
      refine ⟨by omega, ?_⟩
      (refine hk _ ?_; clear hk k; try show Sat _ _ _ _ _)
      refine Sat.le (st' := ⟨42, [(4, .os 0 ad w cap)], [resRow ad w cap (d2.toList.take w).toArray]⟩) ?_ ?_
      · refine Sat.ret ?_
        rw [hlen, hfin]
        simp only [Try.results48, evr, id, reduceCtorEq, reduceIte, Nat.reduceMul, Nat.reduceAdd, Nat.reduceLT, Nat.reduceLeDiff, Nat.reduceEqDiff, Int.reduceLT, Int.reduceBEq, Int.reduceBNe, Nat.reduceBEq, res_one, res_ro, List.append_nil, Int.toNat_zero, Nat.sub_self, resRow]
        exact ⟨rfl, _, _, rfl, rfl⟩
      · simp -implicitDefEqProofs only [evr, id, reduceCtorEq, reduceIte, Nat.reduceMul, Nat.reduceAdd, Nat.reduceLT, Nat.reduceLeDiff, Nat.reduceEqDiff, Int.reduceLT, Int.reduceBEq, Int.reduceBNe, Nat.reduceBEq, res_one, res_ro, List.append_nil, Int.toNat_zero, Nat.sub_self, resRow, evl]
        intro p q hp hq'
        unfold rdCat
        rw [if_pos hp]
        unfold resRd
        simp [getElem!_def, List.getElem?_take, hp]

theorem capt {own : List Eng.Own} {blk ty : Nat} {t : Int} (h : own[1]? = some (.box blk ty [.i .i64 t])) : resDel 49 (fun j => roPtr own ([SV.op 1 blk 0].getD j default)) (fun x => decide (t < x.back)) := by
  have e0 : roPtr own (.op 1 blk 0) = .el ⟨blk, 0, none⟩ 1 (fun j => [SV.i .i64 t].getD (0 + j) default) := by simp [roPtr, h]
  refine ⟨fun own' => ⟨?_, funext fun j => ?_⟩, fun x F => ?_⟩
  · show roArg own' (roPtr own (.op 1 blk 0)) = roPtr own (.op 1 blk 0)
    rw [e0]; rfl
  · cases j with
    | zero =>
      show roPtr own' (roPtr own (.op 1 blk 0)) = roPtr own (.op 1 blk 0)
      rw [e0]; rfl
    | succ j => rfl
  · show Contract F Try.prog _ [resAg x, roPtr own (.op 1 blk 0)] _
    rw [e0]
    exact untilFnC F x blk t
def upTo (xs : List Res) (t : Int) : List Res := xs.filter fun x => !decide (t < x.back)
set_option maxRecDepth 100000 in
theorem untilC0 (F : Frm) (p : LedP) (hl : p.led.size ≤ 1000000000) (hcl : p.cs.length ≤ 1000000000) (t : Int) :
    Contract F Try.prog 20 [ledS p, .i .i64 t] (fun r => ∃ (p' : LedP) (c : List Res) (f : Nat → SV), Canon c (upTo p.led.all t) ∧ p'.led = ledOf c ∧ p'.cs.length ≤ c.length ∧ c.length ≤ (upTo p.led.all t).length ∧ r = .agg 2 f ∧ sim (f 0) (SV.sl p'.a0 p'.rs.length p'.c0 17 (resRd p'.rs.toArray)) ∧ sim (f 1) (SV.sl p'.a1 p'.cs.length p'.c1 4 (cftRd p'.cs))) := by
  have hsz : p.led.all.length = p.led.size := rfl
  refine contract_of Try.func20 rfl (by kernel_rfl) ?_
  simp only [Try.ntmps20, argEnv, ledS]
  (repeat refine Sat.seq ?_)
  (refine Sat.region_k fun k hk => ?_; simp -implicitDefEqProofs only [evr, id, reduceCtorEq, reduceIte, Nat.reduceMul, Nat.reduceAdd, Nat.reduceLT, Nat.reduceLeDiff, Nat.reduceEqDiff, Int.reduceLT, Int.reduceBEq, Int.reduceBNe, Nat.reduceBEq, res_one, res_ro, List.append_nil, Int.toNat_zero, Nat.sub_self, resRow])
  intro blk2 blk3 blk4
  (refine hk _ ?_; clear hk k; try show Sat _ _ _ _ _)
  (repeat refine Sat.seq ?_)
  (refine Sat.region_k fun k hk => ?_; simp -implicitDefEqProofs only [evr, id, reduceCtorEq, reduceIte, Nat.reduceMul, Nat.reduceAdd, Nat.reduceLT, Nat.reduceLeDiff, Nat.reduceEqDiff, Int.reduceLT, Int.reduceBEq, Int.reduceBNe, Nat.reduceBEq, res_one, res_ro, List.append_nil, Int.toNat_zero, Nat.sub_self, resRow])
  refine wcall_new (allC F p (by omega) (by omega)) rfl rfl ?_
  rintro ra ty len rc sz rrd ⟨ra', rc', e⟩
  simp only [resRow, Own.row.injEq] at e
  obtain ⟨rfl, rfl, rfl, rfl, rfl, rfl⟩ := e
  simp -implicitDefEqProofs only [evr, id, reduceCtorEq, reduceIte, Nat.reduceMul, Nat.reduceAdd, Nat.reduceLT, Nat.reduceLeDiff, Nat.reduceEqDiff, Int.reduceLT, Int.reduceBEq, Int.reduceBNe, Nat.reduceBEq, res_one, res_ro, List.append_nil, Int.toNat_zero, Nat.sub_self, resRow]
  refine wcall_mutF 3 (deleteC F _ _ _ (capt (t := t) rfl) ra rc _ ?_ p.led.all.toArray ?_) ?_ rfl rfl ?_
  · omega
  · simp
  · rintro r o1 ⟨rfl, rfl⟩
    exact ⟨rfl, fun i j _ hj => res_plain _ _ _ hj⟩
  rintro r o1 ⟨rfl, rfl⟩
  have hde : delL (fun x => decide (t < x.back)) p.led.all.toArray = upTo p.led.all t := rfl
  have hul : (upTo p.led.all t).length ≤ p.led.all.length := List.length_filter_le _ _
  simp -implicitDefEqProofs only [evr, id, reduceCtorEq, reduceIte, Nat.reduceMul, Nat.reduceAdd, Nat.reduceLT, Nat.reduceLeDiff, Nat.reduceEqDiff, Int.reduceLT, Int.reduceBEq, Int.reduceBNe, Nat.reduceBEq, res_one, res_ro, List.append_nil, Int.toNat_zero, Nat.sub_self, resRow, hde]
  refine wcall_slice (ledgerC F ra rc (upTo p.led.all t) (by omega)) rfl (by simp -implicitDefEqProofs only [evr, id, reduceCtorEq, reduceIte, Nat.reduceMul, Nat.reduceAdd, Nat.reduceLT, Nat.reduceLeDiff, Nat.reduceEqDiff, Int.reduceLT, Int.reduceBEq, Int.reduceBNe, Nat.reduceBEq, res_one, res_ro, List.append_nil, Int.toNat_zero, Nat.sub_self, resRow]) ?_
  rintro r ⟨p', c, h1, h2, h3, h4, rfl⟩
  simp -implicitDefEqProofs only [evr, id, reduceCtorEq, reduceIte, Nat.reduceMul, Nat.reduceAdd, Nat.reduceLT, Nat.reduceLeDiff, Nat.reduceEqDiff, Int.reduceLT, Int.reduceBEq, Int.reduceBNe, Nat.reduceBEq, res_one, res_ro, List.append_nil, Int.toNat_zero, Nat.sub_self, resRow, ledS]
  (refine hk _ ?_; clear hk k; try show Sat _ _ _ _ _)
  refine Sat.ret ?_
  simp only [Try.results20, evr, id, reduceCtorEq, reduceIte, Nat.reduceMul, Nat.reduceAdd, Nat.reduceLT, Nat.reduceLeDiff, Nat.reduceEqDiff, Int.reduceLT, Int.reduceBEq, Int.reduceBNe, Nat.reduceBEq, res_one, res_ro, List.append_nil, Int.toNat_zero, Nat.sub_self, resRow]
  refine ⟨p', c, _, h1, h2, h3, h4, rfl, ?_, ?_⟩
  · simp -implicitDefEqProofs only [evr, id, reduceCtorEq, reduceIte, Nat.reduceMul, Nat.reduceAdd, Nat.reduceLT, Nat.reduceLeDiff, Nat.reduceEqDiff, Int.reduceLT, Int.reduceBEq, Int.reduceBNe, Nat.reduceBEq, res_one, res_ro, List.append_nil, Int.toNat_zero, Nat.sub_self, resRow]
    exact sim_refl _
  · simp -implicitDefEqProofs only [evr, id, reduceCtorEq, reduceIte, Nat.reduceMul, Nat.reduceAdd, Nat.reduceLT, Nat.reduceLeDiff, Nat.reduceEqDiff, Int.reduceLT, Int.reduceBEq, Int.reduceBNe, Nat.reduceBEq, res_one, res_ro, List.append_nil, Int.toNat_zero, Nat.sub_self, resRow]
    exact sim_refl _
theorem untilC (F : Frm) (p : LedP) (hl : p.led.size ≤ 1000000000) (hcl : p.cs.length ≤ 1000000000) (t : Int) :
    Contract F Try.prog 20 [ledS p, .i .i64 t] (fun r => ∃ (p' : LedP) (c : List Res), Canon c (upTo p.led.all t) ∧ p'.led = ledOf c ∧ p'.cs.length ≤ c.length ∧ c.length ≤ (upTo p.led.all t).length ∧ r = ledS p') :=
  (untilC0 F p hl hcl t).same fun r ⟨p', c, f, h1, h2, h3, h4, h5, h6, h7⟩ => ⟨ledS p', by
    rw [h5]
    exact sim_agg2 h6 h7, p', c, h1, h2, h3, h4, rfl⟩
theorem upTo_mem {xs : List Res} {t : Int} {r : Res} : r ∈ upTo xs t ↔ r ∈ xs ∧ r.back ≤ t := by
  unfold upTo
  rw [List.mem_filter]
  simp
theorem untilL (F : Frm) {p : LedP} {xs : List Res} {n : Nat} (h : IsL p xs n) (hn : n ≤ 1000000000) (t : Int) :
    Contract F Try.prog 20 [ledS p, .i .i64 t] (fun r => ∃ s, IsL s (upTo xs t) n ∧ r = ledS s) := by
  have h1 := h.size; have h3 := h.cs
  refine (untilC F p (by omega) (by omega) t).mono ?_
  rintro r ⟨s, c, g1, g2, g3, g4, rfl⟩
  have hu : (upTo p.led.all t).length ≤ p.led.all.length := List.length_filter_le _ _
  have hz : p.led.all.length ≤ n := h1
  refine ⟨s, ⟨c, ⟨g1.asc, fun r => (g1.mem r).trans ?_⟩, g2, by omega, by omega⟩, rfl⟩
  rw [upTo_mem, upTo_mem, h.mem]
end Go.Proofs.Ythhofjkbmnklmaa

/- The reference's All, Size, limited, Add, Union, Find, Until, Check, by the evaluator. -/
set_option linter.unusedSimpArgs false
set_option linter.unusedVariables false
namespace Go.Proofs.Ythhofjkbmnklmaa
open Go.Sort Eng

def ledC (p : LedP) : List SV := [.sl p.a0 p.rs.length p.c0 17 (resRd p.rs.toArray), .sl p.a1 p.cs.length p.c1 4 (cftRd p.cs)]

set_option maxRecDepth 100000 in
theorem rallC (F : Frm) (p : LedP) (hp : p.led.size ≤ 1000000000) (hcl : p.cs.length ≤ 1000000000000) : ContractN F Try.prog 53 [ledS p] (fun o => ∃ a cap, o = resRow a p.led.all.length cap p.led.all.toArray) := by
  rw [size_eq] at hp
  refine contractN_of Try.func53 rfl (by kernel_rfl) ?_
  simp only [Try.ntmps53, argEnv, ledS]
  (repeat refine Sat.seq ?_)
  (refine Sat.region_k fun k hk => ?_; simp -implicitDefEqProofs only [evr, id, reduceCtorEq, reduceIte, Nat.reduceMul, Nat.reduceAdd, Nat.reduceLT, Nat.reduceLeDiff, Nat.reduceEqDiff, Int.reduceLT, Int.reduceBEq, Int.reduceBNe, Nat.reduceBEq, res_one, res_ro, List.append_nil, Int.toNat_zero, Nat.sub_self, resRow, ledC, cft_one, cft_0, cft_1, cft_2, cft_3])
  intro blk1
  (refine hk _ ?_; clear hk k; try show Sat _ _ _ _ _)
  (repeat refine Sat.seq ?_)
  (refine Sat.region_k fun k hk => ?_; simp -implicitDefEqProofs only [evr, id, reduceCtorEq, reduceIte, Nat.reduceMul, Nat.reduceAdd, Nat.reduceLT, Nat.reduceLeDiff, Nat.reduceEqDiff, Int.reduceLT, Int.reduceBEq, Int.reduceBNe, Nat.reduceBEq, res_one, res_ro, List.append_nil, Int.toNat_zero, Nat.sub_self, resRow, ledC, cft_one, cft_0, cft_1, cft_2, cft_3])
  refine ⟨⟨by unfold maxLen; omega, by omega⟩, fun ra rc => ?_⟩
  (refine hk _ ?_; clear hk k; try show Sat _ _ _ _ _)
  (repeat refine Sat.seq ?_)
  (refine Sat.region_k fun k hk => ?_; simp -implicitDefEqProofs only [evr, id, reduceCtorEq, reduceIte, Nat.reduceMul, Nat.reduceAdd, Nat.reduceLT, Nat.reduceLeDiff, Nat.reduceEqDiff, Int.reduceLT, Int.reduceBEq, Int.reduceBNe, Nat.reduceBEq, res_one, res_ro, List.append_nil, Int.toNat_zero, Nat.sub_self, resRow, ledC, cft_one, cft_0, cft_1, cft_2, cft_3]; refine hk _ ?_; clear hk k; try show Sat _ _ _ _ _)
  (repeat refine Sat.seq ?_)
  refine Sat.block ?_
  refine Sat.loop (ι := Nat × Option Addr × Nat) (fun x => ⟨24, [(3, .os 1 x.2.1 (p.rs ++ flatC (p.cs.take x.1)).length x.2.2), (4, .i .i64 x.1), (1, .op 0 blk1 0)], [.box blk1 30 (ledC p), resRow x.2.1 (p.rs ++ flatC (p.cs.take x.1)).length x.2.2 (p.rs ++ flatC (p.cs.take x.1)).toArray]⟩)
    (fun x => x.1 ≤ p.cs.length) (fun x => p.cs.length - x.1) (0, ra, rc) (Nat.zero_le _) (by
      simp only [List.take_zero, flatC, List.map_nil, List.flatten_nil, List.append_nil]
      simp -implicitDefEqProofs only [evr, id, reduceCtorEq, reduceIte, Nat.reduceMul, Nat.reduceAdd, Nat.reduceLT, Nat.reduceLeDiff, Nat.reduceEqDiff, Int.reduceLT, Int.reduceBEq, Int.reduceBNe, Nat.reduceBEq, res_one, res_ro, List.append_nil, Int.toNat_zero, Nat.sub_self, resRow, ledC, cft_one, cft_0, cft_1, cft_2, cft_3, evl]
      rfl) ?_
  rintro ⟨i, xa, xc⟩ hi
  simp only [ledC] at hi ⊢
  (repeat refine Sat.seq ?_)
  (refine Sat.region_k fun k hk => ?_; simp -implicitDefEqProofs only [evr, id, reduceCtorEq, reduceIte, Nat.reduceMul, Nat.reduceAdd, Nat.reduceLT, Nat.reduceLeDiff, Nat.reduceEqDiff, Int.reduceLT, Int.reduceBEq, Int.reduceBNe, Nat.reduceBEq, res_one, res_ro, List.append_nil, Int.toNat_zero, Nat.sub_self, resRow, ledC, cft_one, cft_0, cft_1, cft_2, cft_3]; refine hk _ ?_; clear hk k; try show Sat _ _ _ _ _)
  (repeat refine Sat.seq ?_)
  refine Sat.cond_b rfl (fun h => ?_) (fun h => ?_)
  · have h1 : i < p.cs.length := by simp only [decide_eq_true_eq] at h; omega
    have e1 := lens_succ p.cs i h1
    have e2 := lens_le p.cs (i + 1)
    have e5 := flatC_succ p.cs i h1
    have e6 : (p.rs ++ flatC (p.cs.take i)).length = p.rs.length + lens (p.cs.take i) := by rw [List.length_append, flatC_len]
    have e3 : IntKind.i64.wrap ((i : Int) + 1) = ((i + 1 : Nat) : Int) := by rw [w64 (by omega)]; omega
    refine Sat.skip ?_
    simp only [thenK]
    (repeat refine Sat.seq ?_)
    refine Sat.block ?_
    (refine Sat.region_k fun k hk => ?_; simp -implicitDefEqProofs only [evr, id, reduceCtorEq, reduceIte, Nat.reduceMul, Nat.reduceAdd, Nat.reduceLT, Nat.reduceLeDiff, Nat.reduceEqDiff, Int.reduceLT, Int.reduceBEq, Int.reduceBNe, Nat.reduceBEq, res_one, res_ro, List.append_nil, Int.toNat_zero, Nat.sub_self, resRow, ledC, cft_one, cft_0, cft_1, cft_2, cft_3])
    refine ⟨by omega, ⟨by unfold maxLen; omega, by omega⟩, fun a2 cap2 => ?_⟩
    refine hk _ ?_
    simp only [thenK, blockK]
    refine Sat.region_k fun k hk => ?_
    simp -implicitDefEqProofs only [evr, id, reduceCtorEq, reduceIte, Nat.reduceMul, Nat.reduceAdd, Nat.reduceLT, Nat.reduceLeDiff, Nat.reduceEqDiff, Int.reduceLT, Int.reduceBEq, Int.reduceBNe, Nat.reduceBEq, res_one, res_ro, List.append_nil, Int.toNat_zero, Nat.sub_self, resRow, ledC, cft_one, cft_0, cft_1, cft_2, cft_3, e3]
    refine hk _ ?_
    simp only [thenK, blockK]
    refine ⟨(i + 1, a2, cap2), by omega, by show p.cs.length - (i + 1) < p.cs.length - i; omega, ?_⟩
    simp only [e5, ← List.append_assoc]
    have ec := res_cat (p.rs ++ flatC (p.cs.take i)) (p.cs.getD i default).c.l
    generalize p.rs ++ flatC (p.cs.take i) = xs at ec ⊢
    rw [List.length_append]
    simp -implicitDefEqProofs only [evr, id, reduceCtorEq, reduceIte, Nat.reduceMul, Nat.reduceAdd, Nat.reduceLT, Nat.reduceLeDiff, Nat.reduceEqDiff, Int.reduceLT, Int.reduceBEq, Int.reduceBNe, Nat.reduceBEq, res_one, res_ro, List.append_nil, Int.toNat_zero, Nat.sub_self, resRow, ledC, cft_one, cft_0, cft_1, cft_2, cft_3, evl]
    exact ec
  · have h1 : i = p.cs.length := by simp only [decide_eq_false_iff_not] at h; omega
    subst h1
    refine Sat.exit ?_
    simp only [thenK, blockK, reduceIte]
    (repeat refine Sat.seq ?_)
    (refine Sat.region_k fun k hk => ?_; simp -implicitDefEqProofs only [evr, id, reduceCtorEq, reduceIte, Nat.reduceMul, Nat.reduceAdd, Nat.reduceLT, Nat.reduceLeDiff, Nat.reduceEqDiff, Int.reduceLT, Int.reduceBEq, Int.reduceBNe, Nat.reduceBEq, res_one, res_ro, List.append_nil, Int.toNat_zero, Nat.sub_self, resRow, ledC, cft_one, cft_0, cft_1, cft_2, cft_3]; refine hk _ ?_; clear hk k; try show Sat _ _ _ _ _)
    refine Sat.ret ?_
    rw [all_eq]
    simp only [List.take_length]
    simp only [Try.results53, evr, id, reduceCtorEq, reduceIte, Nat.reduceMul, Nat.reduceAdd, Nat.reduceLT, Nat.reduceLeDiff, Nat.reduceEqDiff, Int.reduceLT, Int.reduceBEq, Int.reduceBNe, Nat.reduceBEq, res_one, res_ro, List.append_nil, Int.toNat_zero, Nat.sub_self, resRow, ledC, cft_one, cft_0, cft_1, cft_2, cft_3, retN, retNK, newRow]
    exact ⟨⟨rfl, rfl, rfl⟩, _, _, rfl⟩

set_option maxRecDepth 100000 in
theorem rsizeC (F : Frm) (p : LedP) (hp : p.led.size ≤ 1000000000) (hcl : p.cs.length ≤ 1000000000000) : Contract F Try.prog 27 [ledS p] (fun r => r = .i .i64 p.led.size) := by
  refine contract_of Try.func27 rfl (by kernel_rfl) ?_
  simp only [Try.ntmps27, argEnv, ledS]
  (repeat refine Sat.seq ?_)
  (refine Sat.region_k fun k hk => ?_; simp -implicitDefEqProofs only [evr, id, reduceCtorEq, reduceIte, Nat.reduceMul, Nat.reduceAdd, Nat.reduceLT, Nat.reduceLeDiff, Nat.reduceEqDiff, Int.reduceLT, Int.reduceBEq, Int.reduceBNe, Nat.reduceBEq, res_one, res_ro, List.append_nil, Int.toNat_zero, Nat.sub_self, resRow, ledC, cft_one, cft_0, cft_1, cft_2, cft_3])
  intro blk1
  (refine hk _ ?_; clear hk k; try show Sat _ _ _ _ _)
  (repeat refine Sat.seq ?_)
  (refine Sat.region_k fun k hk => ?_; simp -implicitDefEqProofs only [evr, id, reduceCtorEq, reduceIte, Nat.reduceMul, Nat.reduceAdd, Nat.reduceLT, Nat.reduceLeDiff, Nat.reduceEqDiff, Int.reduceLT, Int.reduceBEq, Int.reduceBNe, Nat.reduceBEq, res_one, res_ro, List.append_nil, Int.toNat_zero, Nat.sub_self, resRow, ledC, cft_one, cft_0, cft_1, cft_2, cft_3])
  refine wcall_new (rallC F p hp hcl) rfl rfl ?_
  rintro ra ty len rc sz rrd ⟨ra', rc', e⟩
  simp only [resRow, Own.row.injEq] at e
  obtain ⟨rfl, rfl, rfl, rfl, rfl, rfl⟩ := e
  simp -implicitDefEqProofs only [evr, id, reduceCtorEq, reduceIte, Nat.reduceMul, Nat.reduceAdd, Nat.reduceLT, Nat.reduceLeDiff, Nat.reduceEqDiff, Int.reduceLT, Int.reduceBEq, Int.reduceBNe, Nat.reduceBEq, res_one, res_ro, List.append_nil, Int.toNat_zero, Nat.sub_self, resRow, ledC, cft_one, cft_0, cft_1, cft_2, cft_3]
  (refine hk _ ?_; clear hk k; try show Sat _ _ _ _ _)
  refine Sat.ret ?_
  simp only [Try.results27, evr, id, reduceCtorEq, reduceIte, Nat.reduceMul, Nat.reduceAdd, Nat.reduceLT, Nat.reduceLeDiff, Nat.reduceEqDiff, Int.reduceLT, Int.reduceBEq, Int.reduceBNe, Nat.reduceBEq, res_one, res_ro, List.append_nil, Int.toNat_zero, Nat.sub_self, resRow, ledC, cft_one, cft_0, cft_1, cft_2, cft_3]
  rfl

set_option maxRecDepth 100000 in
theorem rlimitedC0 (F : Frm) (a : Option Addr) (cap : Nat) (xs : List Res) (hl : xs.length ≤ 1000000000) (hw : ∀ x ∈ xs, wfR x) :
    Contract F Try.prog 52 [.sl a xs.length cap 17 (resRd xs.toArray)] (fun r => ∃ (p : LedP) (c : List Res) (e : Int) (f : Nat → SV), Canon c xs ∧ c.length ≤ xs.length ∧ LimP c p e ∧ p.cs.length ≤ c.length ∧ r = tupL [.agg 2 f, .i .i64 e] ∧ sim (f 0) (SV.sl p.a0 p.rs.length p.c0 17 (resRd p.rs.toArray)) ∧ sim (f 1) (SV.sl p.a1 p.cs.length p.c1 4 (cftRd p.cs))) := by
  refine contract_of Try.func52 rfl (by kernel_rfl) ?_
  simp only [Try.ntmps52, argEnv]
  (repeat refine Sat.seq ?_)
  (refine Sat.region_k fun k hk => ?_; simp -implicitDefEqProofs only [evr, id, reduceCtorEq, reduceIte, Nat.reduceMul, Nat.reduceAdd, Nat.reduceLT, Nat.reduceLeDiff, Nat.reduceEqDiff, Int.reduceLT, Int.reduceBEq, Int.reduceBNe, Nat.reduceBEq, res_one, res_ro, List.append_nil, Int.toNat_zero, Nat.sub_self, resRow, ledC, cft_one, cft_0, cft_1, cft_2, cft_3])
  intro blk2
  (refine hk _ ?_; clear hk k; try show Sat _ _ _ _ _)
  (repeat refine Sat.seq ?_)
  (refine Sat.region_k fun k hk => ?_; simp -implicitDefEqProofs only [evr, id, reduceCtorEq, reduceIte, Nat.reduceMul, Nat.reduceAdd, Nat.reduceLT, Nat.reduceLeDiff, Nat.reduceEqDiff, Int.reduceLT, Int.reduceBEq, Int.reduceBNe, Nat.reduceBEq, res_one, res_ro, List.append_nil, Int.toNat_zero, Nat.sub_self, resRow, ledC, cft_one, cft_0, cft_1, cft_2, cft_3])
  refine wcall_slice (ofC F a cap xs hl hw) rfl rfl ?_
  rintro r ⟨p, c, hc1, hc2, hc3, hc4, rfl⟩
  have hsz : p.led.size = c.length := by rw [hc2, ledOf_size]
  simp -implicitDefEqProofs only [evr, id, reduceCtorEq, reduceIte, Nat.reduceMul, Nat.reduceAdd, Nat.reduceLT, Nat.reduceLeDiff, Nat.reduceEqDiff, Int.reduceLT, Int.reduceBEq, Int.reduceBNe, Nat.reduceBEq, res_one, res_ro, List.append_nil, Int.toNat_zero, Nat.sub_self, resRow, ledC, cft_one, cft_0, cft_1, cft_2, cft_3, ledS]
  intro blk4
  (refine hk _ ?_; clear hk k; try show Sat _ _ _ _ _)
  (repeat refine Sat.seq ?_)
  (refine Sat.region_k fun k hk => ?_; simp -implicitDefEqProofs only [evr, id, reduceCtorEq, reduceIte, Nat.reduceMul, Nat.reduceAdd, Nat.reduceLT, Nat.reduceLeDiff, Nat.reduceEqDiff, Int.reduceLT, Int.reduceBEq, Int.reduceBNe, Nat.reduceBEq, res_one, res_ro, List.append_nil, Int.toNat_zero, Nat.sub_self, resRow, ledC, cft_one, cft_0, cft_1, cft_2, cft_3])
  refine wcall_plain (rsizeC F p (by omega) (by omega)) rfl (by rintro _ rfl; exact ok_plain rfl) ?_
  rintro r rfl
  simp -implicitDefEqProofs only [evr, id, reduceCtorEq, reduceIte, Nat.reduceMul, Nat.reduceAdd, Nat.reduceLT, Nat.reduceLeDiff, Nat.reduceEqDiff, Int.reduceLT, Int.reduceBEq, Int.reduceBNe, Nat.reduceBEq, res_one, res_ro, List.append_nil, Int.toNat_zero, Nat.sub_self, resRow, ledC, cft_one, cft_0, cft_1, cft_2, cft_3]
  (refine hk _ ?_; clear hk k; try show Sat _ _ _ _ _)
  (repeat refine Sat.seq ?_)
  refine Sat.cond_b rfl (fun h => ?_) (fun h => ?_)
  · have hgt : 16384 < c.length := by simp only [decide_eq_true_eq] at h; omega
    (repeat refine Sat.seq ?_)
    (refine Sat.region_k fun k hk => ?_; simp -implicitDefEqProofs only [evr, id, reduceCtorEq, reduceIte, Nat.reduceMul, Nat.reduceAdd, Nat.reduceLT, Nat.reduceLeDiff, Nat.reduceEqDiff, Int.reduceLT, Int.reduceBEq, Int.reduceBNe, Nat.reduceBEq, res_one, res_ro, List.append_nil, Int.toNat_zero, Nat.sub_self, resRow, ledC, cft_one, cft_0, cft_1, cft_2, cft_3]; refine hk _ ?_; clear hk k; try show Sat _ _ _ _ _)
    refine Sat.ret ?_
    simp only [Try.results52, evr, id, reduceCtorEq, reduceIte, Nat.reduceMul, Nat.reduceAdd, Nat.reduceLT, Nat.reduceLeDiff, Nat.reduceEqDiff, Int.reduceLT, Int.reduceBEq, Int.reduceBNe, Nat.reduceBEq, res_one, res_ro, List.append_nil, Int.toNat_zero, Nat.sub_self, resRow, ledC, cft_one, cft_0, cft_1, cft_2, cft_3]
    refine ⟨⟨none, 0, [], none, 0, []⟩, c, _, _, hc1, hc4, .inr ⟨hgt, rfl, rfl⟩, Nat.zero_le _, rfl, ?_, ?_⟩
    · simp -implicitDefEqProofs only [evr, id, reduceCtorEq, reduceIte, Nat.reduceMul, Nat.reduceAdd, Nat.reduceLT, Nat.reduceLeDiff, Nat.reduceEqDiff, Int.reduceLT, Int.reduceBEq, Int.reduceBNe, Nat.reduceBEq, res_one, res_ro, List.append_nil, Int.toNat_zero, Nat.sub_self, resRow, ledC, cft_one, cft_0, cft_1, cft_2, cft_3]
      exact sim_nil _ _ _ _
    · simp -implicitDefEqProofs only [evr, id, reduceCtorEq, reduceIte, Nat.reduceMul, Nat.reduceAdd, Nat.reduceLT, Nat.reduceLeDiff, Nat.reduceEqDiff, Int.reduceLT, Int.reduceBEq, Int.reduceBNe, Nat.reduceBEq, res_one, res_ro, List.append_nil, Int.toNat_zero, Nat.sub_self, resRow, ledC, cft_one, cft_0, cft_1, cft_2, cft_3]
      exact sim_nil _ _ _ _
  · have hle : c.length ≤ 16384 := by simp only [decide_eq_false_iff_not] at h; omega
    refine Sat.skip ?_
    simp only [thenK]
    (repeat refine Sat.seq ?_)
    (refine Sat.region_k fun k hk => ?_; simp -implicitDefEqProofs only [evr, id, reduceCtorEq, reduceIte, Nat.reduceMul, Nat.reduceAdd, Nat.reduceLT, Nat.reduceLeDiff, Nat.reduceEqDiff, Int.reduceLT, Int.reduceBEq, Int.reduceBNe, Nat.reduceBEq, res_one, res_ro, List.append_nil, Int.toNat_zero, Nat.sub_self, resRow, ledC, cft_one, cft_0, cft_1, cft_2, cft_3]; refine hk _ ?_; clear hk k; try show Sat _ _ _ _ _)
    refine Sat.ret ?_
    simp only [Try.results52, evr, id, reduceCtorEq, reduceIte, Nat.reduceMul, Nat.reduceAdd, Nat.reduceLT, Nat.reduceLeDiff, Nat.reduceEqDiff, Int.reduceLT, Int.reduceBEq, Int.reduceBNe, Nat.reduceBEq, res_one, res_ro, List.append_nil, Int.toNat_zero, Nat.sub_self, resRow, ledC, cft_one, cft_0, cft_1, cft_2, cft_3]
    refine ⟨p, c, _, _, hc1, hc4, .inl ⟨hle, rfl, hc2⟩, hc3, rfl, ?_, ?_⟩
    · simp -implicitDefEqProofs only [evr, id, reduceCtorEq, reduceIte, Nat.reduceMul, Nat.reduceAdd, Nat.reduceLT, Nat.reduceLeDiff, Nat.reduceEqDiff, Int.reduceLT, Int.reduceBEq, Int.reduceBNe, Nat.reduceBEq, res_one, res_ro, List.append_nil, Int.toNat_zero, Nat.sub_self, resRow, ledC, cft_one, cft_0, cft_1, cft_2, cft_3]
      exact sim_refl _
    · simp -implicitDefEqProofs only [evr, id, reduceCtorEq, reduceIte, Nat.reduceMul, Nat.reduceAdd, Nat.reduceLT, Nat.reduceLeDiff, Nat.reduceEqDiff, Int.reduceLT, Int.reduceBEq, Int.reduceBNe, Nat.reduceBEq, res_one, res_ro, List.append_nil, Int.toNat_zero, Nat.sub_self, resRow, ledC, cft_one, cft_0, cft_1, cft_2, cft_3]
      exact sim_refl _
theorem rlimCat (F : Frm) (a : Option Addr) (cap : Nat) (xs ys : List Res) (hl : xs.length + ys.length ≤ 1000000000) (hw : ∀ x ∈ xs ++ ys, wfR x) :
    Contract F Try.prog 52 [.sl a (xs.length + ys.length) cap 17 (rdCat xs.length (resRd xs.toArray) (resRd ys.toArray))] (limR (xs ++ ys)) := by
  have h := limR_of (rlimitedC0 F a cap (xs ++ ys) (by rw [List.length_append]; omega) hw)
  rw [List.length_append] at h
  exact Contract.of_sim h ⟨sim_sl (res_cat xs ys), trivial⟩

set_option maxRecDepth 100000 in
theorem raddC (F : Frm) (p : LedP) (hcl : p.cs.length ≤ 1000000000000) (a : Option Addr) (cap : Nat) (xs : List Res) (hl : p.led.size + xs.length ≤ 1000000000) (hw : ∀ x ∈ p.led.all ++ xs, wfR x) :
    Contract F Try.prog 24 [ledS p, .sl a xs.length cap 17 (resRd xs.toArray)] (limR (p.led.all ++ xs)) := by
  refine limR_of ?_
  have hsz : p.led.all.length = p.led.size := rfl
  refine contract_of Try.func24 rfl (by kernel_rfl) ?_
  simp only [Try.ntmps24, argEnv, ledS]
  (repeat refine Sat.seq ?_)
  (refine Sat.region_k fun k hk => ?_; simp -implicitDefEqProofs only [evr, id, reduceCtorEq, reduceIte, Nat.reduceMul, Nat.reduceAdd, Nat.reduceLT, Nat.reduceLeDiff, Nat.reduceEqDiff, Int.reduceLT, Int.reduceBEq, Int.reduceBNe, Nat.reduceBEq, res_one, res_ro, List.append_nil, Int.toNat_zero, Nat.sub_self, resRow, ledC, cft_one, cft_0, cft_1, cft_2, cft_3])
  intro blk2 blk4
  (refine hk _ ?_; clear hk k; try show Sat _ _ _ _ _)
  (repeat refine Sat.seq ?_)
  (refine Sat.region_k fun k hk => ?_; simp -implicitDefEqProofs only [evr, id, reduceCtorEq, reduceIte, Nat.reduceMul, Nat.reduceAdd, Nat.reduceLT, Nat.reduceLeDiff, Nat.reduceEqDiff, Int.reduceLT, Int.reduceBEq, Int.reduceBNe, Nat.reduceBEq, res_one, res_ro, List.append_nil, Int.toNat_zero, Nat.sub_self, resRow, ledC, cft_one, cft_0, cft_1, cft_2, cft_3])
  refine wcall_new (rallC F p (by omega) hcl) rfl rfl ?_
  rintro ra ty len rc sz rrd ⟨ra', rc', e⟩
  simp only [resRow, Own.row.injEq] at e
  obtain ⟨rfl, rfl, rfl, rfl, rfl, rfl⟩ := e
  simp -implicitDefEqProofs only [evr, id, reduceCtorEq, reduceIte, Nat.reduceMul, Nat.reduceAdd, Nat.reduceLT, Nat.reduceLeDiff, Nat.reduceEqDiff, Int.reduceLT, Int.reduceBEq, Int.reduceBNe, Nat.reduceBEq, res_one, res_ro, List.append_nil, Int.toNat_zero, Nat.sub_self, resRow, ledC, cft_one, cft_0, cft_1, cft_2, cft_3]
  refine ⟨⟨by unfold maxLen; omega, by omega⟩, fun a2 cap2 => ?_⟩
  refine wcall_slice (rlimCat F a2 cap2 p.led.all xs (by omega) hw) rfl (by simp -implicitDefEqProofs only [evr, id, reduceCtorEq, reduceIte, Nat.reduceMul, Nat.reduceAdd, Nat.reduceLT, Nat.reduceLeDiff, Nat.reduceEqDiff, Int.reduceLT, Int.reduceBEq, Int.reduceBNe, Nat.reduceBEq, res_one, res_ro, List.append_nil, Int.toNat_zero, Nat.sub_self, resRow, ledC, cft_one, cft_0, cft_1, cft_2, cft_3]) ?_
  rintro r ⟨p', c, e, h1, h2, h3, h4, rfl⟩
  simp -implicitDefEqProofs only [evr, id, reduceCtorEq, reduceIte, Nat.reduceMul, Nat.reduceAdd, Nat.reduceLT, Nat.reduceLeDiff, Nat.reduceEqDiff, Int.reduceLT, Int.reduceBEq, Int.reduceBNe, Nat.reduceBEq, res_one, res_ro, List.append_nil, Int.toNat_zero, Nat.sub_self, resRow, ledC, cft_one, cft_0, cft_1, cft_2, cft_3, ledS]
  (refine hk _ ?_; clear hk k; try show Sat _ _ _ _ _)
  refine Sat.ret ?_
  simp only [Try.results24, evr, id, reduceCtorEq, reduceIte, Nat.reduceMul, Nat.reduceAdd, Nat.reduceLT, Nat.reduceLeDiff, Nat.reduceEqDiff, Int.reduceLT, Int.reduceBEq, Int.reduceBNe, Nat.reduceBEq, res_one, res_ro, List.append_nil, Int.toNat_zero, Nat.sub_self, resRow, ledC, cft_one, cft_0, cft_1, cft_2, cft_3]
  refine ⟨p', c, e, _, h1, h2, h3, h4, rfl, ?_, ?_⟩
  · simp -implicitDefEqProofs only [evr, id, reduceCtorEq, reduceIte, Nat.reduceMul, Nat.reduceAdd, Nat.reduceLT, Nat.reduceLeDiff, Nat.reduceEqDiff, Int.reduceLT, Int.reduceBEq, Int.reduceBNe, Nat.reduceBEq, res_one, res_ro, List.append_nil, Int.toNat_zero, Nat.sub_self, resRow, ledC, cft_one, cft_0, cft_1, cft_2, cft_3]
    exact sim_refl _
  · simp -implicitDefEqProofs only [evr, id, reduceCtorEq, reduceIte, Nat.reduceMul, Nat.reduceAdd, Nat.reduceLT, Nat.reduceLeDiff, Nat.reduceEqDiff, Int.reduceLT, Int.reduceBEq, Int.reduceBNe, Nat.reduceBEq, res_one, res_ro, List.append_nil, Int.toNat_zero, Nat.sub_self, resRow, ledC, cft_one, cft_0, cft_1, cft_2, cft_3]
    exact sim_refl _

set_option maxRecDepth 100000 in
theorem runionC (F : Frm) (p q : LedP) (hcl : p.cs.length ≤ 1000000000000) (hcl2 : q.cs.length ≤ 1000000000000) (hl : p.led.size + q.led.size ≤ 1000000000) (hw : ∀ x ∈ p.led.all ++ q.led.all, wfR x) :
    Contract F Try.prog 26 [ledS p, ledS q] (limR (p.led.all ++ q.led.all)) := by
  refine limR_of ?_
  have hsz : p.led.all.length = p.led.size := rfl
  have hsz2 : q.led.all.length = q.led.size := rfl
  refine contract_of Try.func26 rfl (by kernel_rfl) ?_
  simp only [Try.ntmps26, argEnv, ledS]
  (repeat refine Sat.seq ?_)
  (refine Sat.region_k fun k hk => ?_; simp -implicitDefEqProofs only [evr, id, reduceCtorEq, reduceIte, Nat.reduceMul, Nat.reduceAdd, Nat.reduceLT, Nat.reduceLeDiff, Nat.reduceEqDiff, Int.reduceLT, Int.reduceBEq, Int.reduceBNe, Nat.reduceBEq, res_one, res_ro, List.append_nil, Int.toNat_zero, Nat.sub_self, resRow, ledC, cft_one, cft_0, cft_1, cft_2, cft_3])
  intro blk2 blk3 blk4
  (refine hk _ ?_; clear hk k; try show Sat _ _ _ _ _)
  (repeat refine Sat.seq ?_)
  (refine Sat.region_rows [⟨0, 7, 4, 1⟩, ⟨0, 8, 8, 1⟩, ⟨2, 9, 128, 2⟩, ⟨5, 10, 320, 2⟩, ⟨8, 11, 512, 0⟩, ⟨8, 12, 512, 0⟩, ⟨63, 0, 1040, 2⟩, ⟨127, 6, 2048, 0⟩] [0, 1] [(2, false), (3, false), (4, true), (5, false), (6, false), (7, false)] [2] (by kernel_rfl) (by kernel_rfl) (fun _ _ h => h) fun k hk => ?_; simp only [List.map_cons, List.map_nil, List.getD_cons_zero, List.getD_cons_succ, btseq_cons, btseq_free, btseq_nil]; simp -implicitDefEqProofs only [evr, id, reduceCtorEq, reduceIte, Nat.reduceMul, Nat.reduceAdd, Nat.reduceLT, Nat.reduceLeDiff, Nat.reduceEqDiff, Int.reduceLT, Int.reduceBEq, Int.reduceBNe, Nat.reduceBEq, res_one, res_ro, List.append_nil, Int.toNat_zero, Nat.sub_self, resRow, ledC, cft_one, cft_0, cft_1, cft_2, cft_3])
  refine wcall_new (rallC F q (by omega) hcl2) rfl rfl ?_
  rintro ra2 ty len rc2 sz rrd ⟨ra', rc', e⟩
  simp only [resRow, Own.row.injEq] at e
  obtain ⟨rfl, rfl, rfl, rfl, rfl, rfl⟩ := e
  simp -implicitDefEqProofs only [evr, id, reduceCtorEq, reduceIte, Nat.reduceMul, Nat.reduceAdd, Nat.reduceLT, Nat.reduceLeDiff, Nat.reduceEqDiff, Int.reduceLT, Int.reduceBEq, Int.reduceBNe, Nat.reduceBEq, res_one, res_ro, List.append_nil, Int.toNat_zero, Nat.sub_self, resRow, ledC, cft_one, cft_0, cft_1, cft_2, cft_3]
  refine wcall_slice (raddC F p hcl ra2 rc2 q.led.all (by omega) hw) rfl (by simp -implicitDefEqProofs only [evr, id, reduceCtorEq, reduceIte, Nat.reduceMul, Nat.reduceAdd, Nat.reduceLT, Nat.reduceLeDiff, Nat.reduceEqDiff, Int.reduceLT, Int.reduceBEq, Int.reduceBNe, Nat.reduceBEq, res_one, res_ro, List.append_nil, Int.toNat_zero, Nat.sub_self, resRow, ledC, cft_one, cft_0, cft_1, cft_2, cft_3]; rfl) ?_
  rintro r ⟨p', c, e, h1, h2, h3, h4, rfl⟩
  simp -implicitDefEqProofs only [evr, id, reduceCtorEq, reduceIte, Nat.reduceMul, Nat.reduceAdd, Nat.reduceLT, Nat.reduceLeDiff, Nat.reduceEqDiff, Int.reduceLT, Int.reduceBEq, Int.reduceBNe, Nat.reduceBEq, res_one, res_ro, List.append_nil, Int.toNat_zero, Nat.sub_self, resRow, ledC, cft_one, cft_0, cft_1, cft_2, cft_3, ledS]
  (refine hk _ ?_; clear hk k; try show Sat _ _ _ _ _)
  refine Sat.ret ?_
  simp only [Try.results26, evr, id, reduceCtorEq, reduceIte, Nat.reduceMul, Nat.reduceAdd, Nat.reduceLT, Nat.reduceLeDiff, Nat.reduceEqDiff, Int.reduceLT, Int.reduceBEq, Int.reduceBNe, Nat.reduceBEq, res_one, res_ro, List.append_nil, Int.toNat_zero, Nat.sub_self, resRow, ledC, cft_one, cft_0, cft_1, cft_2, cft_3]
  refine ⟨p', c, e, _, h1, h2, h3, h4, rfl, ?_, ?_⟩
  · simp -implicitDefEqProofs only [evr, id, reduceCtorEq, reduceIte, Nat.reduceMul, Nat.reduceAdd, Nat.reduceLT, Nat.reduceLeDiff, Nat.reduceEqDiff, Int.reduceLT, Int.reduceBEq, Int.reduceBNe, Nat.reduceBEq, res_one, res_ro, List.append_nil, Int.toNat_zero, Nat.sub_self, resRow, ledC, cft_one, cft_0, cft_1, cft_2, cft_3]
    exact sim_refl _
  · simp -implicitDefEqProofs only [evr, id, reduceCtorEq, reduceIte, Nat.reduceMul, Nat.reduceAdd, Nat.reduceLT, Nat.reduceLeDiff, Nat.reduceEqDiff, Int.reduceLT, Int.reduceBEq, Int.reduceBNe, Nat.reduceBEq, res_one, res_ro, List.append_nil, Int.toNat_zero, Nat.sub_self, resRow, ledC, cft_one, cft_0, cft_1, cft_2, cft_3]
    exact sim_refl _

set_option maxRecDepth 100000 in
theorem rfindC (F : Frm) (p : LedP) (hl : p.rs.length ≤ 1000000000) (v r n : Int) : Contract F Try.prog 29 [ledS p, .i .i64 v, .i .i64 r, .i .i64 n]
    (fun s => s = tupL [resAg ((findR p.rs v r n).getD default), .b (findR p.rs v r n).isSome]) := by
  refine contract_of Try.func29 rfl (by kernel_rfl) ?_
  simp only [Try.ntmps29, argEnv, ledS]
  (repeat refine Sat.seq ?_)
  (refine Sat.region_k fun k hk => ?_; simp -implicitDefEqProofs only [evr, id, reduceCtorEq, reduceIte, Nat.reduceMul, Nat.reduceAdd, Nat.reduceLT, Nat.reduceLeDiff, Nat.reduceEqDiff, Int.reduceLT, Int.reduceBEq, Int.reduceBNe, Nat.reduceBEq, res_one, res_ro, List.append_nil, Int.toNat_zero, Nat.sub_self, resRow, ledC, cft_one, cft_0, cft_1, cft_2, cft_3])
  intro blk1 blk2
  (refine hk _ ?_; clear hk k; try show Sat _ _ _ _ _)
  (repeat refine Sat.seq ?_)
  (refine Sat.region_k fun k hk => ?_; simp -implicitDefEqProofs only [evr, id, reduceCtorEq, reduceIte, Nat.reduceMul, Nat.reduceAdd, Nat.reduceLT, Nat.reduceLeDiff, Nat.reduceEqDiff, Int.reduceLT, Int.reduceBEq, Int.reduceBNe, Nat.reduceBEq, res_one, res_ro, List.append_nil, Int.toNat_zero, Nat.sub_self, resRow, ledC, cft_one, cft_0, cft_1, cft_2, cft_3]; refine hk _ ?_; clear hk k; try show Sat _ _ _ _ _)
  (repeat refine Sat.seq ?_)
  refine Sat.block ?_
  refine Sat.loop (ι := Nat) (fun i => ⟨34, [(10, .i .i64 i), (4, .op 0 blk1 0), (8, .op 1 blk2 0), (1, .i .i64 v), (2, .i .i64 r), (3, .i .i64 n)], [.box blk1 30 (ledC p), .box blk2 39 (Res.cs default)]⟩)
    (fun i => i ≤ p.rs.length ∧ ∀ q, q < i → ¬ (p.rs[q]!).idk = [v, r, n]) (fun i => p.rs.length - i) 0 ⟨Nat.zero_le _, fun q h => absurd h (Nat.not_lt_zero _)⟩ (by simp -implicitDefEqProofs only [evr, id, reduceCtorEq, reduceIte, Nat.reduceMul, Nat.reduceAdd, Nat.reduceLT, Nat.reduceLeDiff, Nat.reduceEqDiff, Int.reduceLT, Int.reduceBEq, Int.reduceBNe, Nat.reduceBEq, res_one, res_ro, List.append_nil, Int.toNat_zero, Nat.sub_self, resRow, ledC, cft_one, cft_0, cft_1, cft_2, cft_3, evl]; try exact ⟨rfl, rfl⟩) ?_
  rintro i ⟨hi, hq⟩
  simp only [ledC, Res.cs]
  (repeat refine Sat.seq ?_)
  (refine Sat.region_k fun k hk => ?_; simp -implicitDefEqProofs only [evr, id, reduceCtorEq, reduceIte, Nat.reduceMul, Nat.reduceAdd, Nat.reduceLT, Nat.reduceLeDiff, Nat.reduceEqDiff, Int.reduceLT, Int.reduceBEq, Int.reduceBNe, Nat.reduceBEq, res_one, res_ro, List.append_nil, Int.toNat_zero, Nat.sub_self, resRow, ledC, cft_one, cft_0, cft_1, cft_2, cft_3]; refine hk _ ?_; clear hk k; try show Sat _ _ _ _ _)
  (repeat refine Sat.seq ?_)
  refine Sat.cond_b rfl (fun h => ?_) (fun h => ?_)
  · have h1 : i < p.rs.length := by simp only [decide_eq_true_eq] at h; omega
    have hg : p.rs[i]! = p.rs[i] := getElem!_pos p.rs i h1
    have e3 : IntKind.i64.wrap ((i : Int) + 1) = ((i + 1 : Nat) : Int) := by rw [w64 (by omega)]; omega
    refine Sat.skip ?_
    simp only [thenK]
    (repeat refine Sat.seq ?_)
    refine Sat.block ?_
    (repeat refine Sat.seq ?_)
    (refine Sat.region_k fun k hk => ?_; simp -implicitDefEqProofs only [evr, id, reduceCtorEq, reduceIte, Nat.reduceMul, Nat.reduceAdd, Nat.reduceLT, Nat.reduceLeDiff, Nat.reduceEqDiff, Int.reduceLT, Int.reduceBEq, Int.reduceBNe, Nat.reduceBEq, res_one, res_ro, List.append_nil, Int.toNat_zero, Nat.sub_self, resRow, ledC, cft_one, cft_0, cft_1, cft_2, cft_3])
    refine ⟨by omega, ?_⟩
    refine wcall_plain (sameIdC F p.rs[i]! (keyR v r n)) (by simp -implicitDefEqProofs only [evr, id, reduceCtorEq, reduceIte, Nat.reduceMul, Nat.reduceAdd, Nat.reduceLT, Nat.reduceLeDiff, Nat.reduceEqDiff, Int.reduceLT, Int.reduceBEq, Int.reduceBNe, Nat.reduceBEq, res_one, res_ro, List.append_nil, Int.toNat_zero, Nat.sub_self, resRow, ledC, cft_one, cft_0, cft_1, cft_2, cft_3, resRd, List.getElem!_toArray]; rfl) (by rintro _ rfl; exact ok_plain rfl) ?_
    rintro s rfl
    simp -implicitDefEqProofs only [evr, id, reduceCtorEq, reduceIte, Nat.reduceMul, Nat.reduceAdd, Nat.reduceLT, Nat.reduceLeDiff, Nat.reduceEqDiff, Int.reduceLT, Int.reduceBEq, Int.reduceBNe, Nat.reduceBEq, res_one, res_ro, List.append_nil, Int.toNat_zero, Nat.sub_self, resRow, ledC, cft_one, cft_0, cft_1, cft_2, cft_3]
    (refine hk _ ?_; clear hk k; try show Sat _ _ _ _ _)
    refine Sat.cond_b rfl (fun h2 => ?_) (fun h2 => ?_)
    · have hid : (p.rs[i]!).idk = [v, r, n] := by simpa [sameId, keyR, Res.idk] using h2
      have hf : findR p.rs v r n = some p.rs[i]! := by
        unfold findR
        rw [List.find?_eq_some_iff_getElem]
        refine ⟨decide_eq_true hid, i, h1, hg.symm, fun j hj => ?_⟩
        have := hq j hj
        rw [getElem!_pos p.rs j (by omega)] at this
        simpa using this
      rw [hf]
      (repeat refine Sat.seq ?_)
      (refine Sat.region_k fun k hk => ?_; simp -implicitDefEqProofs only [evr, id, reduceCtorEq, reduceIte, Nat.reduceMul, Nat.reduceAdd, Nat.reduceLT, Nat.reduceLeDiff, Nat.reduceEqDiff, Int.reduceLT, Int.reduceBEq, Int.reduceBNe, Nat.reduceBEq, res_one, res_ro, List.append_nil, Int.toNat_zero, Nat.sub_self, resRow, ledC, cft_one, cft_0, cft_1, cft_2, cft_3])
      refine ⟨by omega, ?_⟩
      (refine hk _ ?_; clear hk k; try show Sat _ _ _ _ _)
      refine Sat.ret ?_
      simp only [Try.results29, evr, id, reduceCtorEq, reduceIte, Nat.reduceMul, Nat.reduceAdd, Nat.reduceLT, Nat.reduceLeDiff, Nat.reduceEqDiff, Int.reduceLT, Int.reduceBEq, Int.reduceBNe, Nat.reduceBEq, res_one, res_ro, List.append_nil, Int.toNat_zero, Nat.sub_self, resRow, ledC, cft_one, cft_0, cft_1, cft_2, cft_3]
      rw [← List.getElem!_toArray]
      rfl
    · have hid : ¬ (p.rs[i]!).idk = [v, r, n] := by simpa [sameId, keyR, Res.idk] using h2
      refine Sat.skip ?_
      simp only [thenK, blockK]
      refine Sat.region_k fun k hk => ?_
      simp -implicitDefEqProofs only [evr, id, reduceCtorEq, reduceIte, Nat.reduceMul, Nat.reduceAdd, Nat.reduceLT, Nat.reduceLeDiff, Nat.reduceEqDiff, Int.reduceLT, Int.reduceBEq, Int.reduceBNe, Nat.reduceBEq, res_one, res_ro, List.append_nil, Int.toNat_zero, Nat.sub_self, resRow, ledC, cft_one, cft_0, cft_1, cft_2, cft_3, e3]
      refine hk _ ?_
      simp only [thenK, blockK]
      refine ⟨i + 1, ⟨by omega, fun q hq2 => ?_⟩, by omega, ?_⟩
      · by_cases e : q = i
        · subst e; exact hid
        · exact hq q (by omega)
      · simp -implicitDefEqProofs only [evr, id, reduceCtorEq, reduceIte, Nat.reduceMul, Nat.reduceAdd, Nat.reduceLT, Nat.reduceLeDiff, Nat.reduceEqDiff, Int.reduceLT, Int.reduceBEq, Int.reduceBNe, Nat.reduceBEq, res_one, res_ro, List.append_nil, Int.toNat_zero, Nat.sub_self, resRow, ledC, cft_one, cft_0, cft_1, cft_2, cft_3, evl]
        try exact ⟨rfl, rfl⟩
  · have h1 : i = p.rs.length := by simp only [decide_eq_false_iff_not] at h; omega
    subst h1
    have hf : findR p.rs v r n = none := by
      unfold findR
      rw [List.find?_eq_none]
      intro x hx
      obtain ⟨q, hq2, rfl⟩ := List.getElem_of_mem hx
      have := hq q hq2
      rw [getElem!_pos p.rs q hq2] at this
      simpa using this
    rw [hf]
    refine Sat.exit ?_
    simp only [thenK, blockK, reduceIte]
    (repeat refine Sat.seq ?_)
    (refine Sat.region_k fun k hk => ?_; simp -implicitDefEqProofs only [evr, id, reduceCtorEq, reduceIte, Nat.reduceMul, Nat.reduceAdd, Nat.reduceLT, Nat.reduceLeDiff, Nat.reduceEqDiff, Int.reduceLT, Int.reduceBEq, Int.reduceBNe, Nat.reduceBEq, res_one, res_ro, List.append_nil, Int.toNat_zero, Nat.sub_self, resRow, ledC, cft_one, cft_0, cft_1, cft_2, cft_3]; refine hk _ ?_; clear hk k; try show Sat _ _ _ _ _)
    refine Sat.ret ?_
    simp only [Try.results29, evr, id, reduceCtorEq, reduceIte, Nat.reduceMul, Nat.reduceAdd, Nat.reduceLT, Nat.reduceLeDiff, Nat.reduceEqDiff, Int.reduceLT, Int.reduceBEq, Int.reduceBNe, Nat.reduceBEq, res_one, res_ro, List.append_nil, Int.toNat_zero, Nat.sub_self, resRow, ledC, cft_one, cft_0, cft_1, cft_2, cft_3]
    rfl

theorem rd_one (x : Res) : rdEq 1 17 (rdL (Res.cs x) 17) (resRd [x].toArray) := by
  intro i j hi hj
  have : i = 0 := by omega
  subst this
  simp [rdL, resRd]
theorem filter_succ (l : List Res) (t : Int) (i : Nat) (h : i < l.length) : upTo (l.take (i + 1)) t = if (l[i]!).back ≤ t then upTo (l.take i) t ++ [l[i]!] else upTo (l.take i) t := by
  unfold upTo
  rw [List.take_succ_eq_append_getElem h, List.filter_append, getElem!_pos l i h]
  split
  · rename_i hb
    rw [List.filter_cons_of_pos (by simp only [Bool.not_eq_true', decide_eq_false_iff_not]; omega)]; simp
  · rename_i hb
    rw [List.filter_cons_of_neg (by simp only [Bool.not_eq_true', decide_eq_false_iff_not]; omega)]; simp
set_option maxRecDepth 100000 in
theorem runtilC0 (F : Frm) (p : LedP) (hl : p.led.size ≤ 1000000000) (hcl : p.cs.length ≤ 1000000000) (t : Int) (hw : ∀ x ∈ p.led.all, wfR x) :
    Contract F Try.prog 28 [ledS p, .i .i64 t] (fun r => ∃ (p' : LedP) (c : List Res) (f : Nat → SV), Canon c (upTo p.led.all t) ∧ p'.led = ledOf c ∧ p'.cs.length ≤ c.length ∧ c.length ≤ (upTo p.led.all t).length ∧ r = .agg 2 f ∧ sim (f 0) (SV.sl p'.a0 p'.rs.length p'.c0 17 (resRd p'.rs.toArray)) ∧ sim (f 1) (SV.sl p'.a1 p'.cs.length p'.c1 4 (cftRd p'.cs))) := by
  have hsz : p.led.all.length = p.led.size := rfl
  refine contract_of Try.func28 rfl (by kernel_rfl) ?_
  simp only [Try.ntmps28, argEnv, ledS]
  (repeat refine Sat.seq ?_)
  (refine Sat.region_k fun k hk => ?_; simp -implicitDefEqProofs only [evr, id, reduceCtorEq, reduceIte, Nat.reduceMul, Nat.reduceAdd, Nat.reduceLT, Nat.reduceLeDiff, Nat.reduceEqDiff, Int.reduceLT, Int.reduceBEq, Int.reduceBNe, Nat.reduceBEq, res_one, res_ro, List.append_nil, Int.toNat_zero, Nat.sub_self, resRow, ledC, cft_one, cft_0, cft_1, cft_2, cft_3])
  intro blk2 blk4
  (refine hk _ ?_; clear hk k; try show Sat _ _ _ _ _)
  (repeat refine Sat.seq ?_)
  (refine Sat.region_k fun k hk => ?_; simp -implicitDefEqProofs only [evr, id, reduceCtorEq, reduceIte, Nat.reduceMul, Nat.reduceAdd, Nat.reduceLT, Nat.reduceLeDiff, Nat.reduceEqDiff, Int.reduceLT, Int.reduceBEq, Int.reduceBNe, Nat.reduceBEq, res_one, res_ro, List.append_nil, Int.toNat_zero, Nat.sub_self, resRow, ledC, cft_one, cft_0, cft_1, cft_2, cft_3]; refine hk _ ?_; clear hk k; try show Sat _ _ _ _ _)
  (repeat refine Sat.seq ?_)
  (refine Sat.region_k fun k hk => ?_; simp -implicitDefEqProofs only [evr, id, reduceCtorEq, reduceIte, Nat.reduceMul, Nat.reduceAdd, Nat.reduceLT, Nat.reduceLeDiff, Nat.reduceEqDiff, Int.reduceLT, Int.reduceBEq, Int.reduceBNe, Nat.reduceBEq, res_one, res_ro, List.append_nil, Int.toNat_zero, Nat.sub_self, resRow, ledC, cft_one, cft_0, cft_1, cft_2, cft_3])
  refine wcall_new (rallC F p (by omega) (by omega)) rfl rfl ?_
  rintro ra ty len rc sz rrd ⟨ra', rc', e⟩
  simp only [resRow, Own.row.injEq] at e
  obtain ⟨rfl, rfl, rfl, rfl, rfl, rfl⟩ := e
  simp -implicitDefEqProofs only [evr, id, reduceCtorEq, reduceIte, Nat.reduceMul, Nat.reduceAdd, Nat.reduceLT, Nat.reduceLeDiff, Nat.reduceEqDiff, Int.reduceLT, Int.reduceBEq, Int.reduceBNe, Nat.reduceBEq, res_one, res_ro, List.append_nil, Int.toNat_zero, Nat.sub_self, resRow, ledC, cft_one, cft_0, cft_1, cft_2, cft_3]
  (refine hk _ ?_; clear hk k; try show Sat _ _ _ _ _)
  refine Sat.settle2 6 rfl rfl ?_
  simp -implicitDefEqProofs only [evr, id, reduceCtorEq, reduceIte, Nat.reduceMul, Nat.reduceAdd, Nat.reduceLT, Nat.reduceLeDiff, Nat.reduceEqDiff, Int.reduceLT, Int.reduceBEq, Int.reduceBNe, Nat.reduceBEq, res_one, res_ro, List.append_nil, Int.toNat_zero, Nat.sub_self, resRow, ledC, cft_one, cft_0, cft_1, cft_2, cft_3]
  refine Sat.adopt 5 39 17 (resRd #[]) rfl ?_
  simp -implicitDefEqProofs only [evr, id, reduceCtorEq, reduceIte, Nat.reduceMul, Nat.reduceAdd, Nat.reduceLT, Nat.reduceLeDiff, Nat.reduceEqDiff, Int.reduceLT, Int.reduceBEq, Int.reduceBNe, Nat.reduceBEq, res_one, res_ro, List.append_nil, Int.toNat_zero, Nat.sub_self, resRow, ledC, cft_one, cft_0, cft_1, cft_2, cft_3]
  (repeat refine Sat.seq ?_)
  (refine Sat.region_k fun k hk => ?_; simp -implicitDefEqProofs only [evr, id, reduceCtorEq, reduceIte, Nat.reduceMul, Nat.reduceAdd, Nat.reduceLT, Nat.reduceLeDiff, Nat.reduceEqDiff, Int.reduceLT, Int.reduceBEq, Int.reduceBNe, Nat.reduceBEq, res_one, res_ro, List.append_nil, Int.toNat_zero, Nat.sub_self, resRow, ledC, cft_one, cft_0, cft_1, cft_2, cft_3]; refine hk _ ?_; clear hk k; try show Sat _ _ _ _ _)
  (repeat refine Sat.seq ?_)
  refine Sat.block ?_
  refine Sat.loop (ι := Nat × Option Addr × Nat) (fun x => ⟨32, [(5, .os 3 x.2.1 (upTo (p.led.all.take x.1) t).length x.2.2), (7, .i .i64 x.1), (6, .sl ra p.led.all.length rc 17 (resRd p.led.all.toArray)), (1, .i .i64 t), (4, .op 1 blk4 0)],
      [.gone, .box blk4 30 [.sl none 0 0 0 fun _ _ => .v undef, .sl none 0 0 0 fun _ _ => .v undef], .gone, resRow x.2.1 (upTo (p.led.all.take x.1) t).length x.2.2 (upTo (p.led.all.take x.1) t).toArray]⟩)
    (fun x => x.1 ≤ p.led.all.length) (fun x => p.led.all.length - x.1) (0, none, 0) (Nat.zero_le _) (by
      simp -implicitDefEqProofs only [evr, id, reduceCtorEq, reduceIte, Nat.reduceMul, Nat.reduceAdd, Nat.reduceLT, Nat.reduceLeDiff, Nat.reduceEqDiff, Int.reduceLT, Int.reduceBEq, Int.reduceBNe, Nat.reduceBEq, res_one, res_ro, List.append_nil, Int.toNat_zero, Nat.sub_self, resRow, ledC, cft_one, cft_0, cft_1, cft_2, cft_3, evl]
      exact ⟨⟨rfl, rfl⟩, rfl, fun i j hi => absurd hi (Nat.not_lt_zero _)⟩) ?_
  rintro ⟨i, xa, xc⟩ hi
  simp only at hi ⊢
  have hle : (upTo (p.led.all.take i) t).length ≤ p.led.all.length := by
    refine Nat.le_trans (List.length_filter_le _ _) ?_
    rw [List.length_take]; omega
  (repeat refine Sat.seq ?_)
  (refine Sat.region_k fun k hk => ?_; simp -implicitDefEqProofs only [evr, id, reduceCtorEq, reduceIte, Nat.reduceMul, Nat.reduceAdd, Nat.reduceLT, Nat.reduceLeDiff, Nat.reduceEqDiff, Int.reduceLT, Int.reduceBEq, Int.reduceBNe, Nat.reduceBEq, res_one, res_ro, List.append_nil, Int.toNat_zero, Nat.sub_self, resRow, ledC, cft_one, cft_0, cft_1, cft_2, cft_3]; refine hk _ ?_; clear hk k; try show Sat _ _ _ _ _)
  (repeat refine Sat.seq ?_)
  refine Sat.cond_b rfl (fun h => ?_) (fun h => ?_)
  · have h1 : i < p.led.all.length := by simp only [decide_eq_true_eq] at h; omega
    have e3 : IntKind.i64.wrap ((i : Int) + 1) = ((i + 1 : Nat) : Int) := by rw [w64 (by omega)]; omega
    have hf := filter_succ p.led.all t i h1
    have hx : resRd p.led.all.toArray i 10 = .i .i64 (p.led.all[i]!).back := by simp only [resRd, List.getElem!_toArray]; rfl
    refine Sat.skip ?_
    simp only [thenK]
    (repeat refine Sat.seq ?_)
    refine Sat.block ?_
    (repeat refine Sat.seq ?_)
    refine Sat.region_k fun k hk => ?_
    simp -implicitDefEqProofs only [evr, id, reduceCtorEq, reduceIte, Nat.reduceMul, Nat.reduceAdd, Nat.reduceLT, Nat.reduceLeDiff, Nat.reduceEqDiff, Int.reduceLT, Int.reduceBEq, Int.reduceBNe, Nat.reduceBEq, res_one, res_ro, List.append_nil, Int.toNat_zero, Nat.sub_self, resRow, ledC, cft_one, cft_0, cft_1, cft_2, cft_3, hx]
    refine ⟨by omega, ?_⟩
    (refine hk _ ?_; clear hk k; try show Sat _ _ _ _ _)
    refine Sat.cond_b rfl (fun h2 => ?_) (fun h2 => ?_)
    · rw [if_pos (by simpa using h2)] at hf
      refine Sat.region_k fun k hk => ?_
      simp -implicitDefEqProofs only [evr, id, reduceCtorEq, reduceIte, Nat.reduceMul, Nat.reduceAdd, Nat.reduceLT, Nat.reduceLeDiff, Nat.reduceEqDiff, Int.reduceLT, Int.reduceBEq, Int.reduceBNe, Nat.reduceBEq, res_one, res_ro, List.append_nil, Int.toNat_zero, Nat.sub_self, resRow, ledC, cft_one, cft_0, cft_1, cft_2, cft_3]
      refine ⟨by omega, ?_⟩
      intro blk
      refine ⟨⟨by unfold maxLen; omega, by omega⟩, fun a2 cap2 => ?_⟩
      refine hk _ ?_
      simp only [thenK, blockK]
      refine Sat.region_k fun k hk => ?_
      simp -implicitDefEqProofs only [evr, id, reduceCtorEq, reduceIte, Nat.reduceMul, Nat.reduceAdd, Nat.reduceLT, Nat.reduceLeDiff, Nat.reduceEqDiff, Int.reduceLT, Int.reduceBEq, Int.reduceBNe, Nat.reduceBEq, res_one, res_ro, List.append_nil, Int.toNat_zero, Nat.sub_self, resRow, ledC, cft_one, cft_0, cft_1, cft_2, cft_3, e3]
      refine hk _ ?_
      simp only [thenK, blockK]
      refine ⟨(i + 1, a2, cap2), by omega, by show p.led.all.length - (i + 1) < p.led.all.length - i; omega, ?_⟩
      have hrow : [resRd p.led.all.toArray i 0, resRd p.led.all.toArray i 1, resRd p.led.all.toArray i 2, resRd p.led.all.toArray i 3, resRd p.led.all.toArray i 4, resRd p.led.all.toArray i 5, resRd p.led.all.toArray i 6, resRd p.led.all.toArray i 7, resRd p.led.all.toArray i 8, resRd p.led.all.toArray i 9, resRd p.led.all.toArray i 10, resRd p.led.all.toArray i 11, resRd p.led.all.toArray i 12, resRd p.led.all.toArray i 13, resRd p.led.all.toArray i 14, resRd p.led.all.toArray i 15, resRd p.led.all.toArray i 16] = Res.cs p.led.all[i]! := by simp only [resRd, List.getElem!_toArray]; rfl
      have ea := res_appR (upTo (p.led.all.take i) t) p.led.all[i]!
      rw [hrow]
      simp only [hf]
      generalize upTo (p.led.all.take i) t = ys at ea ⊢
      rw [List.length_append]
      simp -implicitDefEqProofs only [evr, id, reduceCtorEq, reduceIte, Nat.reduceMul, Nat.reduceAdd, Nat.reduceLT, Nat.reduceLeDiff, Nat.reduceEqDiff, Int.reduceLT, Int.reduceBEq, Int.reduceBNe, Nat.reduceBEq, res_one, res_ro, List.append_nil, Int.toNat_zero, Nat.sub_self, resRow, ledC, cft_one, cft_0, cft_1, cft_2, cft_3, evl]
      first | exact ⟨rfl, ea⟩ | exact ea | trace_state
    · rw [if_neg (by simpa using h2)] at hf
      refine Sat.skip ?_
      simp only [thenK, blockK]
      refine Sat.region_k fun k hk => ?_
      simp -implicitDefEqProofs only [evr, id, reduceCtorEq, reduceIte, Nat.reduceMul, Nat.reduceAdd, Nat.reduceLT, Nat.reduceLeDiff, Nat.reduceEqDiff, Int.reduceLT, Int.reduceBEq, Int.reduceBNe, Nat.reduceBEq, res_one, res_ro, List.append_nil, Int.toNat_zero, Nat.sub_self, resRow, ledC, cft_one, cft_0, cft_1, cft_2, cft_3, e3]
      refine hk _ ?_
      simp only [thenK, blockK]
      refine ⟨(i + 1, xa, xc), by omega, by show p.led.all.length - (i + 1) < p.led.all.length - i; omega, ?_⟩
      simp only [hf]
      simp -implicitDefEqProofs only [evr, id, reduceCtorEq, reduceIte, Nat.reduceMul, Nat.reduceAdd, Nat.reduceLT, Nat.reduceLeDiff, Nat.reduceEqDiff, Int.reduceLT, Int.reduceBEq, Int.reduceBNe, Nat.reduceBEq, res_one, res_ro, List.append_nil, Int.toNat_zero, Nat.sub_self, resRow, ledC, cft_one, cft_0, cft_1, cft_2, cft_3, evl]
      try exact ⟨rfl, rfl⟩
  · have h1 : i = p.led.all.length := by simp only [decide_eq_false_iff_not] at h; omega
    subst h1
    refine Sat.exit ?_
    simp only [thenK, blockK, reduceIte, List.take_length]
    refine Sat.settle2 5 rfl rfl ?_
    simp -implicitDefEqProofs only [evr, id, reduceCtorEq, reduceIte, Nat.reduceMul, Nat.reduceAdd, Nat.reduceLT, Nat.reduceLeDiff, Nat.reduceEqDiff, Int.reduceLT, Int.reduceBEq, Int.reduceBNe, Nat.reduceBEq, res_one, res_ro, List.append_nil, Int.toNat_zero, Nat.sub_self, resRow, ledC, cft_one, cft_0, cft_1, cft_2, cft_3]
    (repeat refine Sat.seq ?_)
    (refine Sat.region_k fun k hk => ?_; simp -implicitDefEqProofs only [evr, id, reduceCtorEq, reduceIte, Nat.reduceMul, Nat.reduceAdd, Nat.reduceLT, Nat.reduceLeDiff, Nat.reduceEqDiff, Int.reduceLT, Int.reduceBEq, Int.reduceBNe, Nat.reduceBEq, res_one, res_ro, List.append_nil, Int.toNat_zero, Nat.sub_self, resRow, ledC, cft_one, cft_0, cft_1, cft_2, cft_3])
    refine wcall_slice (ofC F xa xc (upTo p.led.all t) (by rw [List.take_length] at hle; omega) (fun x hx => hw x (upTo_mem.1 hx).1)) rfl (by simp -implicitDefEqProofs only [evr, id, reduceCtorEq, reduceIte, Nat.reduceMul, Nat.reduceAdd, Nat.reduceLT, Nat.reduceLeDiff, Nat.reduceEqDiff, Int.reduceLT, Int.reduceBEq, Int.reduceBNe, Nat.reduceBEq, res_one, res_ro, List.append_nil, Int.toNat_zero, Nat.sub_self, resRow, ledC, cft_one, cft_0, cft_1, cft_2, cft_3]; try rfl) ?_
    rintro r ⟨p', c, h1, h2, h3, h4, rfl⟩
    simp -implicitDefEqProofs only [evr, id, reduceCtorEq, reduceIte, Nat.reduceMul, Nat.reduceAdd, Nat.reduceLT, Nat.reduceLeDiff, Nat.reduceEqDiff, Int.reduceLT, Int.reduceBEq, Int.reduceBNe, Nat.reduceBEq, res_one, res_ro, List.append_nil, Int.toNat_zero, Nat.sub_self, resRow, ledC, cft_one, cft_0, cft_1, cft_2, cft_3, ledS]
    (refine hk _ ?_; clear hk k; try show Sat _ _ _ _ _)
    refine Sat.ret ?_
    simp only [Try.results28, evr, id, reduceCtorEq, reduceIte, Nat.reduceMul, Nat.reduceAdd, Nat.reduceLT, Nat.reduceLeDiff, Nat.reduceEqDiff, Int.reduceLT, Int.reduceBEq, Int.reduceBNe, Nat.reduceBEq, res_one, res_ro, List.append_nil, Int.toNat_zero, Nat.sub_self, resRow, ledC, cft_one, cft_0, cft_1, cft_2, cft_3]
    refine ⟨p', c, _, h1, h2, h3, h4, rfl, ?_, ?_⟩
    · simp -implicitDefEqProofs only [evr, id, reduceCtorEq, reduceIte, Nat.reduceMul, Nat.reduceAdd, Nat.reduceLT, Nat.reduceLeDiff, Nat.reduceEqDiff, Int.reduceLT, Int.reduceBEq, Int.reduceBNe, Nat.reduceBEq, res_one, res_ro, List.append_nil, Int.toNat_zero, Nat.sub_self, resRow, ledC, cft_one, cft_0, cft_1, cft_2, cft_3]
      exact sim_refl _
    · simp -implicitDefEqProofs only [evr, id, reduceCtorEq, reduceIte, Nat.reduceMul, Nat.reduceAdd, Nat.reduceLT, Nat.reduceLeDiff, Nat.reduceEqDiff, Int.reduceLT, Int.reduceBEq, Int.reduceBNe, Nat.reduceBEq, res_one, res_ro, List.append_nil, Int.toNat_zero, Nat.sub_self, resRow, ledC, cft_one, cft_0, cft_1, cft_2, cft_3]
      exact sim_refl _
theorem runtilC (F : Frm) (p : LedP) (hl : p.led.size ≤ 1000000000) (hcl : p.cs.length ≤ 1000000000) (t : Int) (hw : ∀ x ∈ p.led.all, wfR x) :
    Contract F Try.prog 28 [ledS p, .i .i64 t] (fun r => ∃ (p' : LedP) (c : List Res), Canon c (upTo p.led.all t) ∧ p'.led = ledOf c ∧ p'.cs.length ≤ c.length ∧ c.length ≤ (upTo p.led.all t).length ∧ r = ledS p') :=
  (runtilC0 F p hl hcl t hw).same fun r ⟨p', c, f, h1, h2, h3, h4, h5, h6, h7⟩ => ⟨ledS p', by
    rw [h5]
    exact sim_agg2 h6 h7, p', c, h1, h2, h3, h4, rfl⟩

set_option maxRecDepth 100000 in
theorem rcheckC (F : Frm) (p : LedP) (hp : p.led.size ≤ 1000000000) (hcp : p.cs.length ≤ 1000000000) (hw : ∀ x ∈ p.led.all, wfR x) :
    Contract F Try.prog 33 [ledS p] (fun r => ∃ e, LedErr p.led e ∧ r = .i .i64 e) := by
  have hsz : p.led.all.length = p.led.size := rfl
  refine contract_of Try.func33 rfl (by kernel_rfl) ?_
  simp only [Try.ntmps33, argEnv, ledS]
  (repeat refine Sat.seq ?_)
  (refine Sat.region_k fun k hk => ?_; simp -implicitDefEqProofs only [evr, id, reduceCtorEq, reduceIte, Nat.reduceMul, Nat.reduceAdd, Nat.reduceLT, Nat.reduceLeDiff, Nat.reduceEqDiff, Int.reduceLT, Int.reduceBEq, Int.reduceBNe, Nat.reduceBEq, res_one, res_ro, List.append_nil, Int.toNat_zero, Nat.sub_self, resRow, ledC, cft_one, cft_0, cft_1, cft_2, cft_3])
  intro blk1
  (refine hk _ ?_; clear hk k; try show Sat _ _ _ _ _)
  (repeat refine Sat.seq ?_)
  (refine Sat.region_k fun k hk => ?_; simp -implicitDefEqProofs only [evr, id, reduceCtorEq, reduceIte, Nat.reduceMul, Nat.reduceAdd, Nat.reduceLT, Nat.reduceLeDiff, Nat.reduceEqDiff, Int.reduceLT, Int.reduceBEq, Int.reduceBNe, Nat.reduceBEq, res_one, res_ro, List.append_nil, Int.toNat_zero, Nat.sub_self, resRow, ledC, cft_one, cft_0, cft_1, cft_2, cft_3])
  refine wcall_new (rallC F p (by omega) (by omega)) rfl rfl ?_
  rintro ra ty len rc sz rrd ⟨ra', rc', e⟩
  simp only [resRow, Own.row.injEq] at e
  obtain ⟨rfl, rfl, rfl, rfl, rfl, rfl⟩ := e
  simp -implicitDefEqProofs only [evr, id, reduceCtorEq, reduceIte, Nat.reduceMul, Nat.reduceAdd, Nat.reduceLT, Nat.reduceLeDiff, Nat.reduceEqDiff, Int.reduceLT, Int.reduceBEq, Int.reduceBNe, Nat.reduceBEq, res_one, res_ro, List.append_nil, Int.toNat_zero, Nat.sub_self, resRow, ledC, cft_one, cft_0, cft_1, cft_2, cft_3]
  (refine hk _ ?_; clear hk k; try show Sat _ _ _ _ _)
  refine Sat.settle2 3 rfl rfl ?_
  simp -implicitDefEqProofs only [evr, id, reduceCtorEq, reduceIte, Nat.reduceMul, Nat.reduceAdd, Nat.reduceLT, Nat.reduceLeDiff, Nat.reduceEqDiff, Int.reduceLT, Int.reduceBEq, Int.reduceBNe, Nat.reduceBEq, res_one, res_ro, List.append_nil, Int.toNat_zero, Nat.sub_self, resRow, ledC, cft_one, cft_0, cft_1, cft_2, cft_3]
  (repeat refine Sat.seq ?_)
  (refine Sat.region_k fun k hk => ?_; simp -implicitDefEqProofs only [evr, id, reduceCtorEq, reduceIte, Nat.reduceMul, Nat.reduceAdd, Nat.reduceLT, Nat.reduceLeDiff, Nat.reduceEqDiff, Int.reduceLT, Int.reduceBEq, Int.reduceBNe, Nat.reduceBEq, res_one, res_ro, List.append_nil, Int.toNat_zero, Nat.sub_self, resRow, ledC, cft_one, cft_0, cft_1, cft_2, cft_3]; refine hk _ ?_; clear hk k; try show Sat _ _ _ _ _)
  (repeat refine Sat.seq ?_)
  refine Sat.cond_b rfl (fun h => ?_) (fun h => ?_)
  · have h1 : 16384 < p.led.size := by simp only [decide_eq_true_eq] at h; omega
    (repeat refine Sat.seq ?_)
    (refine Sat.region_k fun k hk => ?_; simp -implicitDefEqProofs only [evr, id, reduceCtorEq, reduceIte, Nat.reduceMul, Nat.reduceAdd, Nat.reduceLT, Nat.reduceLeDiff, Nat.reduceEqDiff, Int.reduceLT, Int.reduceBEq, Int.reduceBNe, Nat.reduceBEq, res_one, res_ro, List.append_nil, Int.toNat_zero, Nat.sub_self, resRow, ledC, cft_one, cft_0, cft_1, cft_2, cft_3]; refine hk _ ?_; clear hk k; try show Sat _ _ _ _ _)
    refine Sat.ret ?_
    simp only [Try.results33, evr, id, reduceCtorEq, reduceIte, Nat.reduceMul, Nat.reduceAdd, Nat.reduceLT, Nat.reduceLeDiff, Nat.reduceEqDiff, Int.reduceLT, Int.reduceBEq, Int.reduceBNe, Nat.reduceBEq, res_one, res_ro, List.append_nil, Int.toNat_zero, Nat.sub_self, resRow, ledC, cft_one, cft_0, cft_1, cft_2, cft_3]
    exact ⟨5, .inl ⟨h1, rfl⟩, rfl⟩
  have h1 : ¬ 16384 < p.led.size := by simp only [decide_eq_false_iff_not] at h; omega
  refine Sat.skip ?_
  simp only [thenK]
  (repeat refine Sat.seq ?_)
  (refine Sat.region_k fun k hk => ?_; simp -implicitDefEqProofs only [evr, id, reduceCtorEq, reduceIte, Nat.reduceMul, Nat.reduceAdd, Nat.reduceLT, Nat.reduceLeDiff, Nat.reduceEqDiff, Int.reduceLT, Int.reduceBEq, Int.reduceBNe, Nat.reduceBEq, res_one, res_ro, List.append_nil, Int.toNat_zero, Nat.sub_self, resRow, ledC, cft_one, cft_0, cft_1, cft_2, cft_3]; refine hk _ ?_; clear hk k; try show Sat _ _ _ _ _)
  (repeat refine Sat.seq ?_)
  refine Sat.block ?_
  refine Sat.loop (ι := Nat) (fun i => ⟨27, [(4, .i .i64 i), (3, .sl ra p.led.all.length rc 17 (resRd p.led.all.toArray)), (1, .op 0 blk1 0)], [.box blk1 30 (ledC p)]⟩)
    (fun i => i ≤ p.led.all.length ∧ ∀ q, q < i → chk p.led.all[q]! = 0) (fun i => p.led.all.length - i) 0 ⟨Nat.zero_le _, fun q hq => absurd hq (Nat.not_lt_zero _)⟩ (by simp -implicitDefEqProofs only [evr, id, reduceCtorEq, reduceIte, Nat.reduceMul, Nat.reduceAdd, Nat.reduceLT, Nat.reduceLeDiff, Nat.reduceEqDiff, Int.reduceLT, Int.reduceBEq, Int.reduceBNe, Nat.reduceBEq, res_one, res_ro, List.append_nil, Int.toNat_zero, Nat.sub_self, resRow, ledC, cft_one, cft_0, cft_1, cft_2, cft_3, evl]; try rfl) ?_
  rintro i ⟨hi, hq⟩
  simp only [ledC]
  (repeat refine Sat.seq ?_)
  (refine Sat.region_k fun k hk => ?_; simp -implicitDefEqProofs only [evr, id, reduceCtorEq, reduceIte, Nat.reduceMul, Nat.reduceAdd, Nat.reduceLT, Nat.reduceLeDiff, Nat.reduceEqDiff, Int.reduceLT, Int.reduceBEq, Int.reduceBNe, Nat.reduceBEq, res_one, res_ro, List.append_nil, Int.toNat_zero, Nat.sub_self, resRow, ledC, cft_one, cft_0, cft_1, cft_2, cft_3]; refine hk _ ?_; clear hk k; try show Sat _ _ _ _ _)
  (repeat refine Sat.seq ?_)
  refine Sat.cond_b rfl (fun h => ?_) (fun h => ?_)
  · have h2 : i < p.led.all.length := by simp only [decide_eq_true_eq] at h; omega
    have e3 : IntKind.i64.wrap ((i : Int) + 1) = ((i + 1 : Nat) : Int) := by rw [w64 (by omega)]; omega
    refine Sat.skip ?_
    simp only [thenK]
    (repeat refine Sat.seq ?_)
    refine Sat.block ?_
    (repeat refine Sat.seq ?_)
    (refine Sat.region_k fun k hk => ?_; simp -implicitDefEqProofs only [evr, id, reduceCtorEq, reduceIte, Nat.reduceMul, Nat.reduceAdd, Nat.reduceLT, Nat.reduceLeDiff, Nat.reduceEqDiff, Int.reduceLT, Int.reduceBEq, Int.reduceBNe, Nat.reduceBEq, res_one, res_ro, List.append_nil, Int.toNat_zero, Nat.sub_self, resRow, ledC, cft_one, cft_0, cft_1, cft_2, cft_3])
    refine ⟨by omega, ?_⟩
    refine wcall_plain (checkG F p.led.all[i]!) (by simp -implicitDefEqProofs only [evr, id, reduceCtorEq, reduceIte, Nat.reduceMul, Nat.reduceAdd, Nat.reduceLT, Nat.reduceLeDiff, Nat.reduceEqDiff, Int.reduceLT, Int.reduceBEq, Int.reduceBNe, Nat.reduceBEq, res_one, res_ro, List.append_nil, Int.toNat_zero, Nat.sub_self, resRow, ledC, cft_one, cft_0, cft_1, cft_2, cft_3, resRd, List.getElem!_toArray]; rfl) (by rintro _ rfl; exact ok_plain rfl) ?_
    rintro r rfl
    simp -implicitDefEqProofs only [evr, id, reduceCtorEq, reduceIte, Nat.reduceMul, Nat.reduceAdd, Nat.reduceLT, Nat.reduceLeDiff, Nat.reduceEqDiff, Int.reduceLT, Int.reduceBEq, Int.reduceBNe, Nat.reduceBEq, res_one, res_ro, List.append_nil, Int.toNat_zero, Nat.sub_self, resRow, ledC, cft_one, cft_0, cft_1, cft_2, cft_3]
    (refine hk _ ?_; clear hk k; try show Sat _ _ _ _ _)
    have hm : p.led.all[i]! ∈ p.led.all := by rw [getElem!_pos p.led.all i h2]; exact List.getElem_mem h2
    refine Sat.cond_b rfl (fun h3 => ?_) (fun h3 => ?_)
    · have hne : chk p.led.all[i]! ≠ 0 := by simpa using h3
      (repeat refine Sat.seq ?_)
      (refine Sat.region_k fun k hk => ?_; simp -implicitDefEqProofs only [evr, id, reduceCtorEq, reduceIte, Nat.reduceMul, Nat.reduceAdd, Nat.reduceLT, Nat.reduceLeDiff, Nat.reduceEqDiff, Int.reduceLT, Int.reduceBEq, Int.reduceBNe, Nat.reduceBEq, res_one, res_ro, List.append_nil, Int.toNat_zero, Nat.sub_self, resRow, ledC, cft_one, cft_0, cft_1, cft_2, cft_3]; refine hk _ ?_; clear hk k; try show Sat _ _ _ _ _)
      refine Sat.ret ?_
      simp only [Try.results33, evr, id, reduceCtorEq, reduceIte, Nat.reduceMul, Nat.reduceAdd, Nat.reduceLT, Nat.reduceLeDiff, Nat.reduceEqDiff, Int.reduceLT, Int.reduceBEq, Int.reduceBNe, Nat.reduceBEq, res_one, res_ro, List.append_nil, Int.toNat_zero, Nat.sub_self, resRow, ledC, cft_one, cft_0, cft_1, cft_2, cft_3]
      exact ⟨2, .inr (.inl ⟨h1, ⟨_, hm, hne⟩, rfl⟩), rfl⟩
    · have heq : chk p.led.all[i]! = 0 := by simpa using h3
      refine Sat.skip ?_
      simp only [thenK, blockK]
      refine Sat.region_k fun k hk => ?_
      simp -implicitDefEqProofs only [evr, id, reduceCtorEq, reduceIte, Nat.reduceMul, Nat.reduceAdd, Nat.reduceLT, Nat.reduceLeDiff, Nat.reduceEqDiff, Int.reduceLT, Int.reduceBEq, Int.reduceBNe, Nat.reduceBEq, res_one, res_ro, List.append_nil, Int.toNat_zero, Nat.sub_self, resRow, ledC, cft_one, cft_0, cft_1, cft_2, cft_3, e3]
      refine hk _ ?_
      simp only [thenK, blockK]
      refine ⟨i + 1, ⟨by omega, fun q hq2 => ?_⟩, by omega, ?_⟩
      · by_cases e : q = i
        · subst e; exact heq
        · exact hq q (by omega)
      · simp -implicitDefEqProofs only [evr, id, reduceCtorEq, reduceIte, Nat.reduceMul, Nat.reduceAdd, Nat.reduceLT, Nat.reduceLeDiff, Nat.reduceEqDiff, Int.reduceLT, Int.reduceBEq, Int.reduceBNe, Nat.reduceBEq, res_one, res_ro, List.append_nil, Int.toNat_zero, Nat.sub_self, resRow, ledC, cft_one, cft_0, cft_1, cft_2, cft_3, evl]
        try rfl
  have h2 : i = p.led.all.length := by simp only [decide_eq_false_iff_not] at h; omega
  subst h2
  have hall : ∀ r, r ∈ p.led.all → chk r = 0 := fun r hr => by
    obtain ⟨q, hq2, rfl⟩ := List.getElem_of_mem hr
    have := hq q hq2
    rwa [getElem!_pos p.led.all q hq2] at this
  refine Sat.exit ?_
  simp only [thenK, blockK, reduceIte]
  (repeat refine Sat.seq ?_)
  (refine Sat.region_rows [⟨0, 23, 8, 0⟩, ⟨1, 24, 4194304, 2⟩, ⟨0, 25, 2, 1⟩, ⟨6, 26, 25165824, 2⟩, ⟨8, 27, 33554432, 0⟩] [0, 2] [(1, false), (3, false), (4, false)] [1] (by kernel_rfl) (by kernel_rfl) (fun _ _ h => h) fun k hk => ?_; simp only [List.map_cons, List.map_nil, List.getD_cons_zero, List.getD_cons_succ, btseq_cons, btseq_free, btseq_nil]; simp -implicitDefEqProofs only [evr, id, reduceCtorEq, reduceIte, Nat.reduceMul, Nat.reduceAdd, Nat.reduceLT, Nat.reduceLeDiff, Nat.reduceEqDiff, Int.reduceLT, Int.reduceBEq, Int.reduceBNe, Nat.reduceBEq, res_one, res_ro, List.append_nil, Int.toNat_zero, Nat.sub_self, resRow, ledC, cft_one, cft_0, cft_1, cft_2, cft_3])
  refine wcall_slice (ofC F ra rc p.led.all (by omega) hw) rfl (by simp -implicitDefEqProofs only [evr, id, reduceCtorEq, reduceIte, Nat.reduceMul, Nat.reduceAdd, Nat.reduceLT, Nat.reduceLeDiff, Nat.reduceEqDiff, Int.reduceLT, Int.reduceBEq, Int.reduceBNe, Nat.reduceBEq, res_one, res_ro, List.append_nil, Int.toNat_zero, Nat.sub_self, resRow, ledC, cft_one, cft_0, cft_1, cft_2, cft_3]) ?_
  rintro r ⟨q, c, g1, g2, g3, g4, rfl⟩
  have g5 : q.led.size = c.length := by rw [g2, ledOf_size]
  simp -implicitDefEqProofs only [evr, id, reduceCtorEq, reduceIte, Nat.reduceMul, Nat.reduceAdd, Nat.reduceLT, Nat.reduceLeDiff, Nat.reduceEqDiff, Int.reduceLT, Int.reduceBEq, Int.reduceBNe, Nat.reduceBEq, res_one, res_ro, List.append_nil, Int.toNat_zero, Nat.sub_self, resRow, ledC, cft_one, cft_0, cft_1, cft_2, cft_3, ledS]
  refine wcall_plain (sameC F q p (by omega) (by omega) (by omega) (by omega)) (by simp -implicitDefEqProofs only [evr, id, reduceCtorEq, reduceIte, Nat.reduceMul, Nat.reduceAdd, Nat.reduceLT, Nat.reduceLeDiff, Nat.reduceEqDiff, Int.reduceLT, Int.reduceBEq, Int.reduceBNe, Nat.reduceBEq, res_one, res_ro, List.append_nil, Int.toNat_zero, Nat.sub_self, resRow, ledC, cft_one, cft_0, cft_1, cft_2, cft_3]; rfl) (by rintro _ rfl; exact ok_plain rfl) ?_
  rintro r rfl
  simp -implicitDefEqProofs only [evr, id, reduceCtorEq, reduceIte, Nat.reduceMul, Nat.reduceAdd, Nat.reduceLT, Nat.reduceLeDiff, Nat.reduceEqDiff, Int.reduceLT, Int.reduceBEq, Int.reduceBNe, Nat.reduceBEq, res_one, res_ro, List.append_nil, Int.toNat_zero, Nat.sub_self, resRow, ledC, cft_one, cft_0, cft_1, cft_2, cft_3]
  (refine hk _ ?_; clear hk k; try show Sat _ _ _ _ _)
  refine Sat.cond_b rfl (fun h3 => ?_) (fun h3 => ?_)
  · have hne : ¬ q.led = p.led := by simpa using h3
    (repeat refine Sat.seq ?_)
    (refine Sat.region_k fun k hk => ?_; simp -implicitDefEqProofs only [evr, id, reduceCtorEq, reduceIte, Nat.reduceMul, Nat.reduceAdd, Nat.reduceLT, Nat.reduceLeDiff, Nat.reduceEqDiff, Int.reduceLT, Int.reduceBEq, Int.reduceBNe, Nat.reduceBEq, res_one, res_ro, List.append_nil, Int.toNat_zero, Nat.sub_self, resRow, ledC, cft_one, cft_0, cft_1, cft_2, cft_3]; refine hk _ ?_; clear hk k; try show Sat _ _ _ _ _)
    refine Sat.ret ?_
    simp only [Try.results33, evr, id, reduceCtorEq, reduceIte, Nat.reduceMul, Nat.reduceAdd, Nat.reduceLT, Nat.reduceLeDiff, Nat.reduceEqDiff, Int.reduceLT, Int.reduceBEq, Int.reduceBNe, Nat.reduceBEq, res_one, res_ro, List.append_nil, Int.toNat_zero, Nat.sub_self, resRow, ledC, cft_one, cft_0, cft_1, cft_2, cft_3]
    exact ⟨2, .inr (.inr ⟨h1, hall, .inl ⟨fun d hd e => hne (by rw [e, g2, hd.unique g1 (fun _ => Iff.rfl)]), rfl⟩⟩), rfl⟩
  · have heq : q.led = p.led := by simpa using h3
    refine Sat.skip ?_
    simp only [thenK]
    (repeat refine Sat.seq ?_)
    (refine Sat.region_k fun k hk => ?_; simp -implicitDefEqProofs only [evr, id, reduceCtorEq, reduceIte, Nat.reduceMul, Nat.reduceAdd, Nat.reduceLT, Nat.reduceLeDiff, Nat.reduceEqDiff, Int.reduceLT, Int.reduceBEq, Int.reduceBNe, Nat.reduceBEq, res_one, res_ro, List.append_nil, Int.toNat_zero, Nat.sub_self, resRow, ledC, cft_one, cft_0, cft_1, cft_2, cft_3]; refine hk _ ?_; clear hk k; try show Sat _ _ _ _ _)
    refine Sat.ret ?_
    simp only [Try.results33, evr, id, reduceCtorEq, reduceIte, Nat.reduceMul, Nat.reduceAdd, Nat.reduceLT, Nat.reduceLeDiff, Nat.reduceEqDiff, Int.reduceLT, Int.reduceBEq, Int.reduceBNe, Nat.reduceBEq, res_one, res_ro, List.append_nil, Int.toNat_zero, Nat.sub_self, resRow, ledC, cft_one, cft_0, cft_1, cft_2, cft_3]
    exact ⟨0, .inr (.inr ⟨h1, hall, .inr ⟨⟨c, g1, heq.symm.trans g2⟩, rfl⟩⟩), rfl⟩

set_option maxRecDepth 100000 in
theorem lsameC (F : Frm) (p q : LedP) (e f : Int) (hp : p.led.size ≤ 1000000000) (hq : q.led.size ≤ 1000000000) (hcp : p.cs.length ≤ 1000000000) (hcq : q.cs.length ≤ 1000000000) :
    Contract F Try.prog 25 [ledS p, .i .i64 e, ledS q, .i .i64 f] (fun r => r = .b (e == f && decide (p.led = q.led))) := by
  refine contract_of Try.func25 rfl (by kernel_rfl) ?_
  simp only [Try.ntmps25, argEnv, ledS]
  (repeat refine Sat.seq ?_)
  (refine Sat.region_k fun k hk => ?_; simp -implicitDefEqProofs only [evr, id, reduceCtorEq, reduceIte, Nat.reduceMul, Nat.reduceAdd, Nat.reduceLT, Nat.reduceLeDiff, Nat.reduceEqDiff, Int.reduceLT, Int.reduceBEq, Int.reduceBNe, Nat.reduceBEq, res_one, res_ro, List.append_nil, Int.toNat_zero, Nat.sub_self, resRow, ledC, cft_one, cft_0, cft_1, cft_2, cft_3])
  intro blk4 blk6
  (refine hk _ ?_; clear hk k; try show Sat _ _ _ _ _)
  (repeat refine Sat.seq ?_)
  refine Sat.region_at ⟨17, [(8, .b (e == f && decide (p.led = q.led)))], []⟩ (fun k hk => ?_) ?_
  · simp -implicitDefEqProofs only [evr, id, reduceCtorEq, reduceIte, Nat.reduceMul, Nat.reduceAdd, Nat.reduceLT, Nat.reduceLeDiff, Nat.reduceEqDiff, Int.reduceLT, Int.reduceBEq, Int.reduceBNe, Nat.reduceBEq, res_one, res_ro, List.append_nil, Int.toNat_zero, Nat.sub_self, resRow, ledC, cft_one, cft_0, cft_1, cft_2, cft_3]
    refine ⟨fun h1 => ?_, fun h1 => ?_⟩
    · refine wcall_plain (sameC F p q hp hq hcp hcq) (by simp -implicitDefEqProofs only [evr, id, reduceCtorEq, reduceIte, Nat.reduceMul, Nat.reduceAdd, Nat.reduceLT, Nat.reduceLeDiff, Nat.reduceEqDiff, Int.reduceLT, Int.reduceBEq, Int.reduceBNe, Nat.reduceBEq, res_one, res_ro, List.append_nil, Int.toNat_zero, Nat.sub_self, resRow, ledC, cft_one, cft_0, cft_1, cft_2, cft_3]; rfl) (by rintro _ rfl; exact ok_plain rfl) ?_
      rintro r rfl
      simp -implicitDefEqProofs only [evr, id, reduceCtorEq, reduceIte, Nat.reduceMul, Nat.reduceAdd, Nat.reduceLT, Nat.reduceLeDiff, Nat.reduceEqDiff, Int.reduceLT, Int.reduceBEq, Int.reduceBNe, Nat.reduceBEq, res_one, res_ro, List.append_nil, Int.toNat_zero, Nat.sub_self, resRow, ledC, cft_one, cft_0, cft_1, cft_2, cft_3]
      refine hk _ ?_
      have e9 : (e == f && decide (p.led = q.led)) = decide (p.led = q.led) := by simp only [h1, Bool.true_and]
      simp only [e9]
      simp -implicitDefEqProofs only [evr, id, reduceCtorEq, reduceIte, Nat.reduceMul, Nat.reduceAdd, Nat.reduceLT, Nat.reduceLeDiff, Nat.reduceEqDiff, Int.reduceLT, Int.reduceBEq, Int.reduceBNe, Nat.reduceBEq, res_one, res_ro, List.append_nil, Int.toNat_zero, Nat.sub_self, resRow, ledC, cft_one, cft_0, cft_1, cft_2, cft_3, evl]
    · refine hk _ ?_
      have e9 : (e == f && decide (p.led = q.led)) = false := by simp only [h1, Bool.false_and]
      simp only [e9]
      simp -implicitDefEqProofs only [evr, id, reduceCtorEq, reduceIte, Nat.reduceMul, Nat.reduceAdd, Nat.reduceLT, Nat.reduceLeDiff, Nat.reduceEqDiff, Int.reduceLT, Int.reduceBEq, Int.reduceBNe, Nat.reduceBEq, res_one, res_ro, List.append_nil, Int.toNat_zero, Nat.sub_self, resRow, ledC, cft_one, cft_0, cft_1, cft_2, cft_3, evl]
  simp only [thenK]
  refine Sat.ret ?_
  simp only [Try.results25, evr, id, reduceCtorEq, reduceIte, Nat.reduceMul, Nat.reduceAdd, Nat.reduceLT, Nat.reduceLeDiff, Nat.reduceEqDiff, Int.reduceLT, Int.reduceBEq, Int.reduceBNe, Nat.reduceBEq, res_one, res_ro, List.append_nil, Int.toNat_zero, Nat.sub_self, resRow, ledC, cft_one, cft_0, cft_1, cft_2, cft_3]
end Go.Proofs.Ythhofjkbmnklmaa

/- Choices as a variable of the call's own: New makes it, Next and Left turn it; what they give is known exactly. -/
set_option linter.unusedSimpArgs false
set_option linter.unusedVariables false
namespace Go.Proofs.Ythhofjkbmnklmaa
open Go.RowKit Eng

namespace Eng
section
variable {P : Program} {F : Frm} {ds : List (Option Tmp)} {rest : List Oper} {dst : Option Tmp} {n : Nat} {env : List (Nat × SV)} {own : List Own} {k : St → Prop}
/-- a function that makes a variable and gives back its address -/
structure MakesB (P : Program) (f : FuncId) (args : List SV) (ty : TypeId) (post : List SV → Prop) : Prop where
  enters : ∀ vs w, (callFunc f vs).run P w = .ok (.enter f vs) w
  calls : ∀ (R : Nat → Prop) (w : World), (∀ s ∈ args, s.ok R w) → (∀ b, R b → b < w.heap.size) →
    Calls P f (args.map SV.den).toArray w fun e w' => e = .returned (.pointer (some ⟨w.heap.size, 0, none⟩)) ∧ ∃ cs, post cs ∧ Evo (fun _ => False) w w' ∧ w'.heap[w.heap.size]? = some (.cells (cs.map SV.den).toArray ty (0, 0)) ∧ ∀ c ∈ cs, c.den.oneCell' = true ∧ c.ok R w'
theorem wcall_box {f : FuncId} {args : List SV} {ty : TypeId} {post : List SV → Prop} (h : MakesB P f args ty post) (hk : ∀ (cb : Nat) (cs : List SV), post cs → WO P F ds rest (St.put ⟨n, env, own ++ [.box cb ty cs]⟩ dst (.op own.length cb 0)) k) : WCall P F ds rest dst ⟨n, env, own⟩ f (some args) k := by
  unfold WCall
  intro R0 w0 ob R a w hr hargs
  refine ⟨h.enters, ?_⟩
  refine (h.calls R w hargs (fun b hb => (hr.rr b hb).1)).mono ?_
  rintro e w' ⟨rfl, cs, hp, hevo, hcell, hok⟩
  have hg : w.grownBy w' none := ⟨hevo.os, hevo.tape, hevo.output, hevo.size, fun b hb _ => hevo.block b hb (fun h => h)⟩
  have hnew := hr.newRow (o := .box w.heap.size ty cs) hg (fun b hb => by simpa [Own.blk] using hb.symm) ⟨hr.obw, fun hc => by have := (hr.rr _ hc).1; omega, hcell, hok⟩
  exact ⟨.op own.length w.heap.size 0, _, R, rfl, hk w.heap.size cs hp, trivial, hnew, rfl⟩
/-- the cells of a variable of the call's own, read otherwise -/
theorem Sat.simBox {c : Code} {K : Exit → St → Prop} (id : Nat) {blk ty : Nat} {cs : List SV} (cs' : List SV) (hl : own[id]? = some (.box blk ty cs)) (hs : simA cs cs')
    (h : Sat P F c ⟨n, env, own.set id (.box blk ty cs')⟩ K) : Sat P F c ⟨n, env, own⟩ K := by
  rintro R0 w0 a w ⟨ob, R, hr⟩
  refine h R0 w0 a w ⟨ob, R, ?_⟩
  obtain ⟨h1, h2, h3, h4⟩ := hr.own id _ hl
  have key : ∀ (l l' : List SV), simA l l' → l'.map SV.den = l.map SV.den ∧ ∀ c' ∈ l', ∃ c ∈ l, sim c c' := by
    intro l
    induction l with
    | nil => intro l' h; cases l' with
      | nil => exact ⟨rfl, fun _ h => by cases h⟩
      | cons _ _ => exact h.elim
    | cons s t ih => intro l' h; cases l' with
      | nil => exact h.elim
      | cons s' t' =>
        obtain ⟨g1, g2⟩ := ih t' h.2
        refine ⟨by rw [List.map_cons, List.map_cons, g1, h.1.1], fun c' hc' => ?_⟩
        rcases List.mem_cons.1 hc' with rfl | hc'
        · exact ⟨s, by simp, h.1⟩
        · obtain ⟨c, hc, hcc⟩ := g2 c' hc'
          exact ⟨c, List.mem_cons_of_mem _ hc, hcc⟩
  obtain ⟨k1, k2⟩ := key cs cs' hs
  refine hr.setOwn (g := blk) hl rfl (fun b hb => by simpa [Own.blk] using hb.symm) rfl rfl rfl (Nat.le_refl _) (fun _ _ _ => rfl) ⟨h1, h2, by rw [k1]; exact h3, fun c' hc' => ?_⟩
  obtain ⟨c, hc, hcc⟩ := k2 c' hc'
  exact ⟨by rw [← hcc.1]; exact (h4 c hc).1, hcc.2 R w (h4 c hc).2⟩
/-- where ways meet again -/
theorem Sat.join {st : St} {K : Exit → St → Prop} {c y : Code} {ι : Type} (sh : ι → St) (J : ι → Prop) (h : Sat P F c st (thenK (fun st' => ∃ z, J z ∧ Le st' (sh z)) K)) (h2 : ∀ z, J z → Sat P F y (sh z) K) :
    Sat P F c st (thenK (fun st' => Sat P F y st' K) K) :=
  h.mono fun e st' hk => by
    cases e with
    | normal => obtain ⟨z, hz, hl⟩ := hk; exact (h2 z hz).le hl
    | _ => exact hk
/-- .. where more is done ahead of it -/
theorem Sat.join2 {st : St} {K : Exit → St → Prop} {c y : Code} {ι : Type} (sh : ι → St) (J : ι → Prop) (h : (∀ z, J z → Sat P F y (sh z) K) → Sat P F c st (thenK (fun st' => Sat P F y st' K) K)) (h2 : ∀ z, J z → Sat P F y (sh z) K) :
    Sat P F c st (thenK (fun st' => Sat P F y st' K) K) := h h2
end
end Eng

/-- the choices: the codes l, the next one is number p -/
def dbox (cb : Nat) (a : Option Addr) (l cap : Nat) (rd : Nat → Nat → SV) (p : Nat) : Eng.Own := .box cb 63 [.sl a l cap 1 rd, .i .i64 p]

theorem new_made2 (a : Option Addr) (len cap : Nat) (w : World) (most : Nat) (h1 : len ≤ cap) (h2 : cap ≤ maxLen) (hm : most ≤ 65536) :
    Calls Try.prog 10 #[.slice a len cap, .int .i64 (most : Int)] w fun e w' => e = .returned (.pointer (some ⟨w.heap.size, 0, none⟩)) ∧ ∃ n, n ≤ len ∧ n ≤ most ∧ w' = w.alloc (.cells #[.slice a n cap, .int .i64 0] 63) := by
  unfold maxLen at h2
  by_cases hl : (most : Nat) < len
  · go_enter Try.func10, Try.ntmps10
    go_wp2
    go_ret
    exact ⟨rfl, most, by omega, by omega, rfl⟩
  · go_enter Try.func10, Try.ntmps10
    go_wp2
    go_ret
    exact ⟨rfl, len, by omega, by omega, rfl⟩

theorem newB (s : SV) (hs : isBytes s) (most : Nat) (hm : most ≤ 65536) : MakesB Try.prog 10 [s, .i .i64 most] 63
    (fun cs => ∃ a l cap rd, l ≤ most ∧ l ≤ cap ∧ cap ≤ maxLen ∧ (∀ i, i < l → ∃ x : Int, 0 ≤ x ∧ x < 256 ∧ rd i 0 = .i .u8 x) ∧ cs = [.sl a l cap 1 rd, .i .i64 0]) := by
  obtain ⟨a, len, cap, rd, rfl, hb⟩ := hs
  refine ⟨enters_of Try.func10 rfl (by kernel_rfl), fun R w hargs hR => ?_⟩
  obtain ⟨h1, h2, h3⟩ := hargs _ (List.mem_cons_self ..)
  refine (new_made2 a len cap w most h1 h2 hm).mono ?_
  rintro e w' ⟨rfl, n, hn, hnm, rfl⟩
  have hold : ∀ b, R b → (w.alloc (.cells #[.slice a n cap, .int .i64 0] 63)).heap[b]? = w.heap[b]? := fun b hb => heap_alloc_old w _ (hR b hb)
  refine ⟨rfl, [.sl a n cap 1 rd, .i .i64 0], ⟨a, n, cap, rd, hnm, by omega, h2, fun i hi => hb i (by omega), rfl⟩, ⟨rfl, rfl, rfl, by simp, fun b hb _ => heap_alloc_old w _ hb⟩, heap_alloc_new w _, ?_⟩
  intro c hc
  simp only [List.mem_cons, List.not_mem_nil, or_false] at hc
  rcases hc with rfl | rfl
  · refine ⟨rfl, by omega, h2, ?_⟩
    rcases h3 with h3 | ⟨blk, off, rfl, hr, hc⟩
    · exact .inl (by omega)
    · refine .inr ⟨blk, off, rfl, hr, fun i j hi hj => ?_⟩
      obtain ⟨g1, g2, g3⟩ := hc i j (by omega) hj
      exact ⟨by rw [World.cell?_of_block (w := w) (a := ⟨blk, off + i * 1 + j, none⟩) (hold blk hr)]; exact g1, g2, SV.ok_mono (fun _ h => h) hold _ g3⟩
  · exact ⟨rfl, trivial⟩

set_option maxRecDepth 100000 in
theorem nextB (F : Frm) (cb : Nat) (a : Option Addr) (l cap : Nat) (rd : Nat → Nat → SV) (p : Nat) (hl : l ≤ 65536) (hb : ∀ i, i < l → ∃ x : Int, 0 ≤ x ∧ x < 256 ∧ rd i 0 = .i .u8 x) (n : Int) (h0 : 1 ≤ n) (h1 : n ≤ 256) :
    ContractM F Try.prog 22 [.op 0 cb 0, .i .i64 n] (dbox cb a l cap rd p) (fun r o1 => ∃ x : Int, r = .i .i64 x ∧ 0 ≤ x ∧ x < n ∧ o1 = dbox cb a l cap rd (if p < l then p + 1 else p)) := by
  refine contractM_of Try.func22 rfl (by kernel_rfl) (by rintro r o1 ⟨x, _, _, _, rfl⟩; rfl) ?_
  simp only [Try.ntmps22, argEnv, dbox]
  (repeat refine Sat.seq ?_)
  (refine Sat.region_k fun k hk => ?_; simp -implicitDefEqProofs only [evr, id, reduceCtorEq, reduceIte, Nat.reduceMul, Nat.reduceAdd, Nat.reduceLT, Nat.reduceLeDiff, Nat.reduceEqDiff, Int.reduceLT, Int.reduceBEq, Int.reduceBNe, Nat.reduceBEq, retM, retMK, dbox, List.cons_append, List.nil_append]; refine hk _ ?_; clear hk k; try show Sat _ _ _ _ _)
  by_cases hp : p < l
  · obtain ⟨x, hx0, hx1, hx⟩ := hb p hp
    have e1 : IntKind.i64.wrap ((p : Int) + 1) = ((p + 1 : Nat) : Int) := by rw [w64 (by omega)]; omega
    have e2 : IntKind.i64.wrap x = x := w64 (by omega)
    (repeat refine Sat.seq ?_)
    (refine Sat.region_qk (by kernel_rfl) (by kernel_rfl) fun k hk => ?_; simp -implicitDefEqProofs only [evr, id, reduceCtorEq, reduceIte, Nat.reduceMul, Nat.reduceAdd, Nat.reduceLT, Nat.reduceLeDiff, Nat.reduceEqDiff, Int.reduceLT, Int.reduceBEq, Int.reduceBNe, Nat.reduceBEq, retM, retMK, dbox, List.cons_append, List.nil_append])
    refine ⟨fun h => absurd h (by omega), fun _ => ?_⟩
    (refine hk _ ?_; clear hk k; try show Sat _ _ _ _ _)
    refine Sat.cond_b rfl (fun h => absurd h (by simp only [decide_eq_true_eq]; omega)) (fun _ => ?_)
    refine Sat.skip ?_
    simp only [thenK]
    (repeat refine Sat.seq ?_)
    refine Sat.region_qk (by kernel_rfl) (by kernel_rfl) fun k hk => ?_
    simp -implicitDefEqProofs only [evr, id, reduceCtorEq, reduceIte, Nat.reduceMul, Nat.reduceAdd, Nat.reduceLT, Nat.reduceLeDiff, Nat.reduceEqDiff, Int.reduceLT, Int.reduceBEq, Int.reduceBNe, Nat.reduceBEq, retM, retMK, dbox, List.cons_append, List.nil_append, Int.toNat_natCast, hx, e2]
    refine ⟨by omega, ?_⟩
    (refine hk _ ?_; clear hk k; try show Sat _ _ _ _ _)
    (repeat refine Sat.seq ?_)
    refine Sat.region_k fun k hk => ?_
    simp -implicitDefEqProofs only [evr, id, reduceCtorEq, reduceIte, Nat.reduceMul, Nat.reduceAdd, Nat.reduceLT, Nat.reduceLeDiff, Nat.reduceEqDiff, Int.reduceLT, Int.reduceBEq, Int.reduceBNe, Nat.reduceBEq, retM, retMK, dbox, List.cons_append, List.nil_append, e1]
    (refine hk _ ?_; clear hk k; try show Sat _ _ _ _ _)
    (repeat refine Sat.seq ?_)
    (refine Sat.region_k fun k hk => ?_; simp -implicitDefEqProofs only [evr, id, reduceCtorEq, reduceIte, Nat.reduceMul, Nat.reduceAdd, Nat.reduceLT, Nat.reduceLeDiff, Nat.reduceEqDiff, Int.reduceLT, Int.reduceBEq, Int.reduceBNe, Nat.reduceBEq, retM, retMK, dbox, List.cons_append, List.nil_append]; refine hk _ ?_; clear hk k; try show Sat _ _ _ _ _)
    (repeat refine Sat.seq ?_)
    refine Sat.cond_b rfl (fun h => absurd h (by simp only [decide_eq_true_eq]; omega)) (fun _ => ?_)
    refine Sat.skip ?_
    simp only [thenK]
    (repeat refine Sat.seq ?_)
    (refine Sat.region_k fun k hk => ?_; simp -implicitDefEqProofs only [evr, id, reduceCtorEq, reduceIte, Nat.reduceMul, Nat.reduceAdd, Nat.reduceLT, Nat.reduceLeDiff, Nat.reduceEqDiff, Int.reduceLT, Int.reduceBEq, Int.reduceBNe, Nat.reduceBEq, retM, retMK, dbox, List.cons_append, List.nil_append])
    refine ⟨by omega, ?_⟩
    (refine hk _ ?_; clear hk k; try show Sat _ _ _ _ _)
    refine Sat.ret ?_
    simp only [Try.results22, evr, id, reduceCtorEq, reduceIte, Nat.reduceMul, Nat.reduceAdd, Nat.reduceLT, Nat.reduceLeDiff, Nat.reduceEqDiff, Int.reduceLT, Int.reduceBEq, Int.reduceBNe, Nat.reduceBEq, retM, retMK, dbox, List.cons_append, List.nil_append]
    rw [if_pos hp]
    exact ⟨rfl, _, _, rfl, _, rfl, Int.tmod_nonneg _ hx0, Int.tmod_lt_of_pos _ (by omega), rfl⟩
  · (repeat refine Sat.seq ?_)
    (refine Sat.region_qk (by kernel_rfl) (by kernel_rfl) fun k hk => ?_; simp -implicitDefEqProofs only [evr, id, reduceCtorEq, reduceIte, Nat.reduceMul, Nat.reduceAdd, Nat.reduceLT, Nat.reduceLeDiff, Nat.reduceEqDiff, Int.reduceLT, Int.reduceBEq, Int.reduceBNe, Nat.reduceBEq, retM, retMK, dbox, List.cons_append, List.nil_append])
    refine ⟨fun _ => ?_, fun h => absurd (by omega) h⟩
    (refine hk _ ?_; clear hk k; try show Sat _ _ _ _ _)
    refine Sat.cond_tt rfl ?_
    (repeat refine Sat.seq ?_)
    (refine Sat.region_k fun k hk => ?_; simp -implicitDefEqProofs only [evr, id, reduceCtorEq, reduceIte, Nat.reduceMul, Nat.reduceAdd, Nat.reduceLT, Nat.reduceLeDiff, Nat.reduceEqDiff, Int.reduceLT, Int.reduceBEq, Int.reduceBNe, Nat.reduceBEq, retM, retMK, dbox, List.cons_append, List.nil_append]; refine hk _ ?_; clear hk k; try show Sat _ _ _ _ _)
    refine Sat.ret ?_
    simp only [Try.results22, evr, id, reduceCtorEq, reduceIte, Nat.reduceMul, Nat.reduceAdd, Nat.reduceLT, Nat.reduceLeDiff, Nat.reduceEqDiff, Int.reduceLT, Int.reduceBEq, Int.reduceBNe, Nat.reduceBEq, retM, retMK, dbox, List.cons_append, List.nil_append]
    rw [if_neg hp]
    exact ⟨rfl, _, _, rfl, 0, rfl, Int.le_refl _, by omega, rfl⟩

theorem nextB2 (F : Frm) (cb : Nat) (a : Option Addr) (l cap : Nat) (rd : Nat → Nat → SV) (p : Nat) (hl : l ≤ 65536) (hb : ∀ i, i < l → ∃ x : Int, 0 ≤ x ∧ x < 256 ∧ rd i 0 = .i .u8 x) (hp : p ≤ l) (n : Int) (h0 : 1 ≤ n) (h1 : n ≤ 256) :
    ContractM F Try.prog 22 [.op 0 cb 0, .i .i64 n] (dbox cb a l cap rd p) (fun r o1 => ∃ (x : Int) (p' : Nat), r = .i .i64 x ∧ 0 ≤ x ∧ x < n ∧ p ≤ p' ∧ p' ≤ l ∧ (p < l → p < p') ∧ o1 = dbox cb a l cap rd p') :=
  (nextB F cb a l cap rd p hl hb n h0 h1).mono fun r o1 ⟨x, h2, h3, h4, h5⟩ => ⟨x, _, h2, h3, h4, by split <;> omega, by split <;> omega, fun h => by rw [if_pos h]; omega, h5⟩
end Go.Proofs.Ythhofjkbmnklmaa

/- From a contract to the walk of a law: bytes that came in. -/
set_option linter.unusedSimpArgs false
set_option linter.unusedVariables false
namespace Go.Proofs.Ythhofjkbmnklmaa
open Go.RowKit Eng

/-- bytes that came in -/
def slB (a : Option Addr) (cap : Nat) (z : List Int) : SV := .sl a z.length cap 1 fun i _ => .i .u8 (z.getD i 0)
theorem slB_of {w : World} {v : Value} {z : List Int} (h : Rd .u8 w v z) : ∃ a cap, v = (slB a cap z).den ∧ (slB a cap z).ok (fun b => b < w.heap.size) w := by
  obtain ⟨ad, cap, rfl, h1, h2, h3⟩ := h
  refine ⟨ad, cap, rfl, h1, h2, ?_⟩
  rcases h3 with h3 | ⟨b, off, rfl, hlt, hc⟩
  · exact .inl h3
  · refine .inr ⟨b, off, rfl, hlt, fun i j hi hj => ?_⟩
    obtain rfl : j = 0 := by omega
    rw [Nat.mul_one]
    exact ⟨hc i hi, rfl, trivial⟩

/-- the call returns true, and what was there is as it was -/
theorem walk_of {P : Program} {f : FuncId} {args : List SV} (h : Contract Frm.nil P f args (fun r => r = .b true)) {w : World} (ha : ∀ s ∈ args, s.ok (fun b => b < w.heap.size) w) :
    Calls P f (args.map SV.den).toArray w fun e w' => e = .returned (.bool true) ∧ Below w.heap.size w w' :=
  (h.calls _ w trivial ha (fun b hb => ⟨hb, fun h => h⟩)).mono fun e w' ⟨r, he, hr, _, hevo, _⟩ => by
    subst hr
    exact ⟨he, ⟨hevo.os, hevo.tape, hevo.output, hevo.size, fun b hb => hevo.block b hb (fun h => h)⟩⟩
end Go.Proofs.Ythhofjkbmnklmaa

/- MergeExact: the walk. -/
set_option linter.unusedSimpArgs false
set_option linter.unusedVariables false
namespace Go.Proofs.Ythhofjkbmnklmaa
open Go.Sort Eng

namespace Eng
/-- a variable of the call's own is only read from now on -/
theorem Sat.settleBox {P : Program} {F : Frm} {n : Nat} {env : List (Nat × SV)} {own : List Own} {c : Code} {K : Exit → St → Prop} (t : Nat) {id blk ty : Nat} {cs : List SV} (hl : look env t = some (.op id blk 0)) (ho : own[id]? = some (.box blk ty cs))
    (h : Sat P F c ⟨n, (t, .el ⟨blk, 0, none⟩ cs.length fun j => cs.getD j default) :: env, own.set id .gone⟩ K) : Sat P F c ⟨n, env, own⟩ K := by
  rintro R0 w0 a w ⟨ob, R, hr⟩
  have hidl : id < own.length := (List.getElem?_eq_some_iff.1 ho).1
  have hob := hr.own id _ ho
  obtain ⟨b1, b2, b3, b4⟩ := hob
  have hblt : blk < w.heap.size := (Array.getElem?_eq_some_iff.1 b3).1
  have hr' : RelR F R0 w0 ob (fun b => R b ∨ b = blk) ⟨n, env, own.set id .gone⟩ a w := by
    refine hr.turn (fun _ => False) rfl rfl rfl (Nat.le_refl _) (fun _ h => h.elim) (fun _ _ _ => rfl) (fun _ h => .inl h) (fun b hb => ?_) ?_ ?_ (gb_set hr.evo.size hr.gb ho fun b hb => by cases hb)
    · rcases hb with hb | rfl
      · exact .inl hb
      · exact .inr ⟨b1, hblt, hr.gb id _ ho b rfl⟩
    · intro i x hx
      rw [List.getElem?_set] at hx
      split at hx
      · rename_i e'
        subst e'
        simp only [hidl, if_true, Option.some.injEq] at hx
        subst hx
        trivial
      · rename_i hne
        refine Own.ok_keep (hr.own i x hx) (fun _ h => .inl h) (fun b hbx hb => ?_) (fun _ _ => rfl) (fun _ _ => rfl)
        rcases hb with hb | rfl
        · exact hb
        · exact absurd hbx (hr.dist id i _ x hne ho hx b rfl)
    · intro i j o1 o2 hij h1 h2 b hb1 hb2
      rw [List.getElem?_set] at h1 h2
      split at h1 <;> split at h2
      · omega
      · rename_i e' hne
        subst e'
        simp only [hidl, if_true, Option.some.injEq] at h1
        subst h1
        cases hb1
      · rename_i hne e'
        subst e'
        simp only [hidl, if_true, Option.some.injEq] at h2
        subst h2
        cases hb2
      · exact hr.dist i j o1 o2 hij h1 h2 b hb1 hb2
  refine h R0 w0 a w ⟨ob, _, hr'.defers, ?_, hr'.size, hr'.own, hr'.dist, hr'.evo, hr'.inv, hr'.obM, hr'.gb, hr'.obw, hr'.rr, hr'.r0⟩
  intro u s hu
  simp only [look] at hu
  split at hu
  · rename_i e
    simp only [Option.some.injEq] at hu
    subst hu
    subst e
    refine ⟨(hr'.env t _ hl).1, blk, 0, rfl, .inr rfl, fun j hj => ?_⟩
    have hm : cs.getD j default ∈ cs := getD_mem hj
    refine ⟨?_, (b4 _ hm).1, SV.ok_mono (fun _ h => .inl h) (fun _ _ => rfl) _ (b4 _ hm).2⟩
    rw [cell_of_row w blk _ _ _ _ b3]
    simp [List.getD, hj]
  · exact hr'.env u s hu
/-- a row in a struct variable of the call's own is only read from now on -/
theorem Sat.settleLeaf {P : Program} {F : Frm} {n : Nat} {env : List (Nat × SV)} {own : List Own} {c : Code} {K : Exit → St → Prop} (id j : Nat) {blk ty id2 len cap e sz : Nat} {ad : Option Addr} {cs : List SV} {rd : Nat → Nat → SV}
    (hb : own[id]? = some (.box blk ty cs)) (hj : cs[j]? = some (.os id2 ad len cap)) (h2 : own[id2]? = some (.row ad e len cap sz rd))
    (h : Sat P F c ⟨n, env, (own.set id2 (.frz ad len cap sz rd)).set id (.box blk ty (cs.set j (.sl ad len cap sz rd)))⟩ K) : Sat P F c ⟨n, env, own⟩ K := by
  rintro R0 w0 a w ⟨ob, R, hr⟩
  have hf : frz own [.os id2 ad len cap] = own.set id2 (.frz ad len cap sz rd) := by simp [frz, frzOne, h2]
  have hne : id2 ≠ id := fun e => by subst e; rw [hb] at h2; cases h2
  have hlt2 : id2 < own.length := (List.getElem?_eq_some_iff.1 h2).1
  obtain ⟨R', hRR, hr'⟩ := hr.frz [.os id2 ad len cap]
  rw [hf] at hr'
  have hb' : (own.set id2 (.frz ad len cap sz rd))[id]? = some (.box blk ty cs) := by rw [List.getElem?_set_ne hne]; exact hb
  have h2' : (own.set id2 (.frz ad len cap sz rd))[id2]? = some (.frz ad len cap sz rd) := by rw [List.getElem?_set_self hlt2]
  obtain ⟨g1, g2, g3, g4⟩ := hr'.own id _ hb'
  have hfz : (SV.sl ad len cap sz rd).ok R' w := hr'.own id2 _ h2'
  refine h R0 w0 a w ⟨ob, R', ?_⟩
  have hjl : j < cs.length := (List.getElem?_eq_some_iff.1 hj).1
  have hden : (cs.set j (.sl ad len cap sz rd)).map SV.den = cs.map SV.den := by
    apply List.ext_getElem?
    intro q
    rw [List.getElem?_map, List.getElem?_map, List.getElem?_set]
    split
    · rename_i e
      subst e
      simp only [hjl, if_true, hj, Option.map_some]
      rfl
    · rfl
  refine hr'.setOwn (g := blk) hb' rfl (fun b hb => by simpa [Own.blk] using hb.symm) rfl rfl rfl (Nat.le_refl _) (fun _ _ _ => rfl) ⟨g1, g2, by rw [hden]; exact g3, fun c' hc' => ?_⟩
  rcases List.mem_or_eq_of_mem_set hc' with hc' | rfl
  · exact g4 c' hc'
  · exact ⟨rfl, hfz⟩
end Eng

theorem res_ell (x y : Res) : aggEq Try.prog 39 17 (fun j => [SV.i .i64 x.vantage, .i .i64 x.run, .i .i64 x.number, .i .i64 x.at_, .i .u32 x.dst, .i .i64 x.proto, .i .i64 x.flow, .i .i64 x.ttl, .b x.answered, .b x.doubled, .i .i64 x.back, .i .u32 x.from_, .i .i64 x.kind, .i .i64 x.code, .i .i64 x.left, .i .i64 x.id, .i .i64 x.quoted].getD j default) 17 (fun j => [SV.i .i64 y.vantage, .i .i64 y.run, .i .i64 y.number, .i .i64 y.at_, .i .u32 y.dst, .i .i64 y.proto, .i .i64 y.flow, .i .i64 y.ttl, .b y.answered, .b y.doubled, .i .i64 y.back, .i .u32 y.from_, .i .i64 y.kind, .i .i64 y.code, .i .i64 y.left, .i .i64 y.id, .i .i64 y.quoted].getD j default) = some (decide (x = y)) := res_eq _ _
theorem ok_findX {p : LedP} {v r n : Int} (s : SV) (h : s = tupL [resAg ((findR p.rs v r n).getD default), .b (findR p.rs v r n).isSome]) : ∀ R w, s.ok R w := by
  subst h
  intro R w j hj
  rcases (show j = 0 ∨ j = 1 by have : j < 2 := hj; omega) with rfl | rfl
  · exact plain_resA _ R w
  · exact trivial
theorem slB_bytesX (a : Option Addr) (cap : Nat) (z : List Int) (hz : ∀ n ∈ z, (Lit.int .u8 n).wf = true) : isBytes (slB a cap z) :=
  ⟨a, z.length, cap, _, rfl, fun i hi => ⟨z.getD i 0, by have := bounds_u8 (hz _ (getD_mem (d := 0) hi)); omega, by have := bounds_u8 (hz _ (getD_mem (d := 0) hi)); omega, rfl⟩⟩
theorem IsL.wf {p : LedP} {xs : List Res} {n : Nat} (h : IsL p xs n) (hw : ∀ x ∈ xs, wfR x) : ∀ x ∈ p.led.all, wfR x := fun x hx => hw x ((h.mem x).1 hx)
theorem raddL (F : Frm) {p : LedP} {xs : List Res} {n : Nat} (h : IsL p xs n) (a : Option Addr) (cap : Nat) (ys : List Res) (hn : n + ys.length ≤ 16384) (hx : ∀ x ∈ xs, wfR x) (hy : ∀ x ∈ ys, wfR x) :
    Contract F Try.prog 24 [ledS p, .sl a ys.length cap 17 (resRd ys.toArray)] (fun r => ∃ s, IsL s (xs ++ ys) (n + ys.length) ∧ r = tupL [ledS s, .i .i64 0]) := by
  have h1 := h.size; have h3 := h.cs
  refine (raddC F p (by omega) a cap ys (by omega) (fun x hm => by
    rcases List.mem_append.1 hm with hm | hm
    · exact h.wf hx x hm
    · exact hy x hm)).mono fun r hr => limL hn ?_ (fun r => ?_) hr
  · rw [List.length_append]
    exact Nat.add_le_add h1 (Nat.le_refl _)
  · rw [List.mem_append, List.mem_append, h.mem]
theorem runionL (F : Frm) {p q : LedP} {xs ys : List Res} {n m : Nat} (h : IsL p xs n) (k : IsL q ys m) (hn : n + m ≤ 16384) (hx : ∀ x ∈ xs, wfR x) (hy : ∀ x ∈ ys, wfR x) :
    Contract F Try.prog 26 [ledS p, ledS q] (fun r => ∃ s, IsL s (xs ++ ys) (n + m) ∧ r = tupL [ledS s, .i .i64 0]) := by
  have h1 := h.size; have h2 := k.size; have h3 := h.cs; have h4 := k.cs
  refine (runionC F p q (by omega) (by omega) (by omega) (fun x hm => by
    rcases List.mem_append.1 hm with hm | hm
    · exact h.wf hx x hm
    · exact k.wf hy x hm)).mono fun r hr => limL hn ?_ (fun r => ?_) hr
  · rw [List.length_append]
    exact Nat.add_le_add h1 h2
  · rw [List.mem_append, List.mem_append, h.mem, k.mem]
theorem runtilL (F : Frm) {p : LedP} {xs : List Res} {n : Nat} (h : IsL p xs n) (hn : n ≤ 1000000000) (t : Int) (hx : ∀ x ∈ xs, wfR x) :
    Contract F Try.prog 28 [ledS p, .i .i64 t] (fun r => ∃ s, IsL s (upTo xs t) n ∧ r = ledS s) := by
  have h1 := h.size; have h3 := h.cs
  refine (runtilC F p (by omega) (by omega) t (h.wf hx)).mono ?_
  rintro r ⟨s, c, g1, g2, g3, g4, rfl⟩
  have hu : (upTo p.led.all t).length ≤ p.led.all.length := List.length_filter_le _ _
  have hz : p.led.all.length ≤ n := h1
  refine ⟨s, ⟨c, ⟨g1.asc, fun r => (g1.mem r).trans ?_⟩, g2, by omega, by omega⟩, rfl⟩
  rw [upTo_mem, upTo_mem, h.mem]
theorem rsizeL (F : Frm) {p : LedP} {xs : List Res} {n : Nat} (h : IsL p xs n) (hn : n ≤ 1000000000) : Contract F Try.prog 27 [ledS p] (fun r => r = .i .i64 p.led.size) := by
  have h1 := h.size; have h3 := h.cs
  exact rsizeC F p (by omega) (by omega)
theorem lsameL (F : Frm) {p q : LedP} {xs ys : List Res} {n m : Nat} (h : IsL p xs n) (k : IsL q ys m) (hn : n ≤ 1000000000) (hm : m ≤ 1000000000) (e : ∀ r, r ∈ xs ↔ r ∈ ys) :
    Contract F Try.prog 25 [ledS p, .i .i64 0, ledS q, .i .i64 0] (fun r => r = .b true) := by
  have h1 := h.size; have h2 := k.size; have h3 := h.cs; have h4 := k.cs
  refine (lsameC F p q 0 0 (by omega) (by omega) (by omega) (by omega)).mono fun r hr => ?_
  rw [hr, decide_eq_true (h.same k e)]; rfl
theorem IsL.asc {p : LedP} {xs : List Res} {n : Nat} (h : IsL p xs n) : asc p.rs := by
  obtain ⟨c, h1, h2, h3, h4⟩ := h
  have : p.rs = (ledOf c).rs := congrArg Led.rs h2
  rw [this]; exact asc_rs h1.asc

set_option maxRecDepth 100000 in
theorem comparedC (F : Frm) (x y : Res) (hx : wfR x) (hy : wfR y) : Contract F Try.prog 32 [resAg x, resAg y] (fun r => r = .b true) := by
  have hv := cmpL_vals x.keys y.keys
  have hn := resCompare_neg x y
  have e1 : IntKind.i64.wrap (0 - resCompare x y) = -resCompare x y := by rw [w64 (by unfold resCompare; omega)]; omega
  refine contract_of Try.func32 rfl (by kernel_rfl) ?_
  simp only [Try.ntmps32, argEnv, resAg, Res.cs]
  (repeat refine Sat.seq ?_)
  (refine Sat.region_k fun k hk => ?_; simp -implicitDefEqProofs only [evr, id, reduceCtorEq, reduceIte, Nat.reduceMul, Nat.reduceAdd, Nat.reduceLT, Nat.reduceLeDiff, Nat.reduceEqDiff, Int.reduceLT, Int.reduceBEq, Int.reduceBNe, Nat.reduceBEq, ptr, res_one, res_ro, List.append_nil, Int.toNat_zero, Nat.sub_self, resRow, ledC, res_eqr, res_ell, cft_one, cft_0, cft_1, cft_2, cft_3, beq_self_eq_true])
  intro blk2 blk3
  (refine hk _ ?_; clear hk k; try show Sat _ _ _ _ _)
  refine Sat.seq ?_
  refine Sat.region_qat (by kernel_rfl) (by kernel_rfl) ⟨22, [(4, .b true)], []⟩ (fun k hk => ?_) ?_
  · simp -implicitDefEqProofs only [evr, id, reduceCtorEq, reduceIte, Nat.reduceMul, Nat.reduceAdd, Nat.reduceLT, Nat.reduceLeDiff, Nat.reduceEqDiff, Int.reduceLT, Int.reduceBEq, Int.reduceBNe, Nat.reduceBEq, ptr, res_one, res_ro, List.append_nil, Int.toNat_zero, Nat.sub_self, resRow, ledC, res_eqr, res_ell, cft_one, cft_0, cft_1, cft_2, cft_3, beq_self_eq_true]
    refine qcall (compareC Frm.nil x y) (by simp -implicitDefEqProofs only [evr, id, reduceCtorEq, reduceIte, Nat.reduceMul, Nat.reduceAdd, Nat.reduceLT, Nat.reduceLeDiff, Nat.reduceEqDiff, Int.reduceLT, Int.reduceBEq, Int.reduceBNe, Nat.reduceBEq, ptr, res_one, res_ro, List.append_nil, Int.toNat_zero, Nat.sub_self, resRow, ledC, res_eqr, res_ell, cft_one, cft_0, cft_1, cft_2, cft_3, beq_self_eq_true]; rfl) (ok_plain rfl) ?_
    simp -implicitDefEqProofs only [evr, id, reduceCtorEq, reduceIte, Nat.reduceMul, Nat.reduceAdd, Nat.reduceLT, Nat.reduceLeDiff, Nat.reduceEqDiff, Int.reduceLT, Int.reduceBEq, Int.reduceBNe, Nat.reduceBEq, ptr, res_one, res_ro, List.append_nil, Int.toNat_zero, Nat.sub_self, resRow, ledC, res_eqr, res_ell, cft_one, cft_0, cft_1, cft_2, cft_3, beq_self_eq_true]
    refine qcall (compareG Frm.nil x y hx hy) (by simp -implicitDefEqProofs only [evr, id, reduceCtorEq, reduceIte, Nat.reduceMul, Nat.reduceAdd, Nat.reduceLT, Nat.reduceLeDiff, Nat.reduceEqDiff, Int.reduceLT, Int.reduceBEq, Int.reduceBNe, Nat.reduceBEq, ptr, res_one, res_ro, List.append_nil, Int.toNat_zero, Nat.sub_self, resRow, ledC, res_eqr, res_ell, cft_one, cft_0, cft_1, cft_2, cft_3, beq_self_eq_true]; rfl) (ok_plain rfl) ?_
    simp -implicitDefEqProofs only [evr, id, reduceCtorEq, reduceIte, Nat.reduceMul, Nat.reduceAdd, Nat.reduceLT, Nat.reduceLeDiff, Nat.reduceEqDiff, Int.reduceLT, Int.reduceBEq, Int.reduceBNe, Nat.reduceBEq, ptr, res_one, res_ro, List.append_nil, Int.toNat_zero, Nat.sub_self, resRow, ledC, res_eqr, res_ell, cft_one, cft_0, cft_1, cft_2, cft_3, beq_self_eq_true]
    refine qcall (compareC Frm.nil y x) (by simp -implicitDefEqProofs only [evr, id, reduceCtorEq, reduceIte, Nat.reduceMul, Nat.reduceAdd, Nat.reduceLT, Nat.reduceLeDiff, Nat.reduceEqDiff, Int.reduceLT, Int.reduceBEq, Int.reduceBNe, Nat.reduceBEq, ptr, res_one, res_ro, List.append_nil, Int.toNat_zero, Nat.sub_self, resRow, ledC, res_eqr, res_ell, cft_one, cft_0, cft_1, cft_2, cft_3, beq_self_eq_true]; rfl) (ok_plain rfl) ?_
    simp -implicitDefEqProofs only [evr, id, reduceCtorEq, reduceIte, Nat.reduceMul, Nat.reduceAdd, Nat.reduceLT, Nat.reduceLeDiff, Nat.reduceEqDiff, Int.reduceLT, Int.reduceBEq, Int.reduceBNe, Nat.reduceBEq, ptr, res_one, res_ro, List.append_nil, Int.toNat_zero, Nat.sub_self, resRow, ledC, res_eqr, res_ell, cft_one, cft_0, cft_1, cft_2, cft_3, beq_self_eq_true]
    refine qcall (compareC Frm.nil x y) (by simp -implicitDefEqProofs only [evr, id, reduceCtorEq, reduceIte, Nat.reduceMul, Nat.reduceAdd, Nat.reduceLT, Nat.reduceLeDiff, Nat.reduceEqDiff, Int.reduceLT, Int.reduceBEq, Int.reduceBNe, Nat.reduceBEq, ptr, res_one, res_ro, List.append_nil, Int.toNat_zero, Nat.sub_self, resRow, ledC, res_eqr, res_ell, cft_one, cft_0, cft_1, cft_2, cft_3, beq_self_eq_true]; rfl) (ok_plain rfl) ?_
    simp -implicitDefEqProofs only [evr, id, reduceCtorEq, reduceIte, Nat.reduceMul, Nat.reduceAdd, Nat.reduceLT, Nat.reduceLeDiff, Nat.reduceEqDiff, Int.reduceLT, Int.reduceBEq, Int.reduceBNe, Nat.reduceBEq, ptr, res_one, res_ro, List.append_nil, Int.toNat_zero, Nat.sub_self, resRow, ledC, res_eqr, res_ell, cft_one, cft_0, cft_1, cft_2, cft_3, beq_self_eq_true, e1, hn, beq_self_eq_true]
    refine hk _ ?_
    simp -implicitDefEqProofs only [evr, id, reduceCtorEq, reduceIte, Nat.reduceMul, Nat.reduceAdd, Nat.reduceLT, Nat.reduceLeDiff, Nat.reduceEqDiff, Int.reduceLT, Int.reduceBEq, Int.reduceBNe, Nat.reduceBEq, ptr, res_one, res_ro, List.append_nil, Int.toNat_zero, Nat.sub_self, resRow, ledC, res_eqr, res_ell, cft_one, cft_0, cft_1, cft_2, cft_3, beq_self_eq_true, evl]
  simp only [thenK]
  refine Sat.ret ?_
  simp only [Try.results32, evr, id, reduceCtorEq, reduceIte, Nat.reduceMul, Nat.reduceAdd, Nat.reduceLT, Nat.reduceLeDiff, Nat.reduceEqDiff, Int.reduceLT, Int.reduceBEq, Int.reduceBNe, Nat.reduceBEq, ptr, res_one, res_ro, List.append_nil, Int.toNat_zero, Nat.sub_self, resRow, ledC, res_eqr, res_ell, cft_one, cft_0, cft_1, cft_2, cft_3, beq_self_eq_true]

/-- the first conflict with another number -/
def numC (cs : List CftP) (w : Int) : List CftP := match cs with | [] => [] | x :: t => { x with c := { x.c with number := w } } :: t
theorem numC_len (cs : List CftP) (w : Int) : (numC cs w).length = cs.length := by cases cs <;> rfl
theorem lens_num (cs : List CftP) (w : Int) : lens (numC cs w) = lens cs := by cases cs <;> rfl
theorem flat_num (cs : List CftP) (w : Int) : flatC (numC cs w) = flatC cs := by cases cs <;> rfl
theorem cft_num (cs : List CftP) (w : Int) (h : 0 < cs.length) : rdEq cs.length 4 (rdSet (cftRd cs) 0 2 [.i .i64 w]) (cftRd (numC cs w)) := by
  match cs, h with
  | x :: t, _ =>
    intro i j hi hj
    cases i with
    | zero =>
      rcases (show j = 0 ∨ j = 1 ∨ j = 2 ∨ j = 3 by omega) with rfl | rfl | rfl | rfl <;> rfl
    | succ i => rfl
def tooBig (p : LedP) : Bool := decide (200 < p.rs.length) || decide (50 < p.cs.length)
set_option maxHeartbeats 4000000 in
set_option maxRecDepth 100000 in
theorem exactC (a : Option Addr) (cap : Nat) (z : List Int) (hz : ∀ n ∈ z, (Lit.int .u8 n).wf = true) (p : LedP) (hp : p.led.size ≤ 1000000000) (hcp : p.cs.length ≤ 1000000000) (hwp : ∀ x ∈ p.led.all, wfR x) (u v : Res) (hu : wfR u) (hv : wfR v) (t : Int) :
    Contract Frm.nil Try.prog 8 [slB a cap z, ledS p, resAg u, resAg v, .i .i64 t] (fun r => r = .b true) := by
  have hb := slB_bytesX a cap z hz
  refine contract_of Try.func8 rfl (by kernel_rfl) ?_
  simp only [Try.ntmps8, argEnv, ledS, resAg, Res.cs]
  (repeat refine Sat.seq ?_)
  (refine Sat.region_k fun k hk => ?_; simp -implicitDefEqProofs only [evr, id, reduceCtorEq, reduceIte, Nat.reduceMul, Nat.reduceAdd, Nat.reduceLT, Nat.reduceLeDiff, Nat.reduceEqDiff, Int.reduceLT, Int.reduceBEq, Int.reduceBNe, Nat.reduceBEq, ptr, res_one, res_ro, List.append_nil, Int.toNat_zero, Nat.sub_self, resRow, ledC, res_eqr, res_ell, cft_one, cft_0, cft_1, cft_2, cft_3, beq_self_eq_true])
  intro blk6 blk7 blk8
  (refine hk _ ?_; clear hk k; try show Sat _ _ _ _ _)
  (repeat refine Sat.seq ?_)
  refine Sat.region_at ⟨238, [(42, .b (tooBig p)), (0, slB a cap z), (4, .i .i64 t), (6, .op 0 blk6 0), (7, .op 1 blk7 0), (8, .op 2 blk8 0)], [.box blk6 30 (ledC p), .box blk7 39 (Res.cs u), .box blk8 39 (Res.cs v)]⟩ (fun k hk => ?_) ?_
  · simp -implicitDefEqProofs only [evr, id, reduceCtorEq, reduceIte, Nat.reduceMul, Nat.reduceAdd, Nat.reduceLT, Nat.reduceLeDiff, Nat.reduceEqDiff, Int.reduceLT, Int.reduceBEq, Int.reduceBNe, Nat.reduceBEq, ptr, res_one, res_ro, List.append_nil, Int.toNat_zero, Nat.sub_self, resRow, ledC, res_eqr, res_ell, cft_one, cft_0, cft_1, cft_2, cft_3, beq_self_eq_true]
    refine wcall_plain (awakeC Frm.nil) rfl (by rintro _ rfl; exact ok_plain rfl) ?_
    rintro r rfl
    simp -implicitDefEqProofs only [evr, id, reduceCtorEq, reduceIte, Nat.reduceMul, Nat.reduceAdd, Nat.reduceLT, Nat.reduceLeDiff, Nat.reduceEqDiff, Int.reduceLT, Int.reduceBEq, Int.reduceBNe, Nat.reduceBEq, ptr, res_one, res_ro, List.append_nil, Int.toNat_zero, Nat.sub_self, resRow, ledC, res_eqr, res_ell, cft_one, cft_0, cft_1, cft_2, cft_3, beq_self_eq_true]
    refine ⟨fun h1 => ?_, fun h1 => ?_⟩
    · refine hk _ ?_
      have e : tooBig p = true := by unfold tooBig; rw [decide_eq_true (by omega), Bool.true_or]
      simp only [e, Res.cs]
      simp -implicitDefEqProofs only [evr, id, reduceCtorEq, reduceIte, Nat.reduceMul, Nat.reduceAdd, Nat.reduceLT, Nat.reduceLeDiff, Nat.reduceEqDiff, Int.reduceLT, Int.reduceBEq, Int.reduceBNe, Nat.reduceBEq, ptr, res_one, res_ro, List.append_nil, Int.toNat_zero, Nat.sub_self, resRow, ledC, res_eqr, res_ell, cft_one, cft_0, cft_1, cft_2, cft_3, beq_self_eq_true, evl]
    · refine hk _ ?_
      have e : tooBig p = decide ((50 : Int) < p.cs.length) := by unfold tooBig; rw [decide_eq_false (by omega), Bool.false_or]; apply decide_eq_decide.2; omega
      simp only [e, Res.cs]
      simp -implicitDefEqProofs only [evr, id, reduceCtorEq, reduceIte, Nat.reduceMul, Nat.reduceAdd, Nat.reduceLT, Nat.reduceLeDiff, Nat.reduceEqDiff, Int.reduceLT, Int.reduceBEq, Int.reduceBNe, Nat.reduceBEq, ptr, res_one, res_ro, List.append_nil, Int.toNat_zero, Nat.sub_self, resRow, ledC, res_eqr, res_ell, cft_one, cft_0, cft_1, cft_2, cft_3, beq_self_eq_true, evl]
  simp only [thenK, ledC, Res.cs]
  refine Sat.cond_b rfl (fun h => ?_) (fun _ => ?_)
  · refine Sat.seq ?_
    refine Sat.region_at ⟨238, [(10, .b true)], []⟩ (fun k hk => ?_) ?_
    · simp -implicitDefEqProofs only [evr, id, reduceCtorEq, reduceIte, Nat.reduceMul, Nat.reduceAdd, Nat.reduceLT, Nat.reduceLeDiff, Nat.reduceEqDiff, Int.reduceLT, Int.reduceBEq, Int.reduceBNe, Nat.reduceBEq, ptr, res_one, res_ro, List.append_nil, Int.toNat_zero, Nat.sub_self, resRow, ledC, res_eqr, res_ell, cft_one, cft_0, cft_1, cft_2, cft_3, beq_self_eq_true]
      refine ⟨fun h1 => ?_, fun h1 => ?_⟩
      · refine hk _ ?_
        simp -implicitDefEqProofs only [evr, id, reduceCtorEq, reduceIte, Nat.reduceMul, Nat.reduceAdd, Nat.reduceLT, Nat.reduceLeDiff, Nat.reduceEqDiff, Int.reduceLT, Int.reduceBEq, Int.reduceBNe, Nat.reduceBEq, ptr, res_one, res_ro, List.append_nil, Int.toNat_zero, Nat.sub_self, resRow, ledC, res_eqr, res_ell, cft_one, cft_0, cft_1, cft_2, cft_3, beq_self_eq_true, evl]
      · refine hk _ ?_
        have e : decide ((50 : Int) < p.cs.length) = true := by
          unfold tooBig at h
          rw [decide_eq_false (by omega), Bool.false_or] at h
          have := of_decide_eq_true h
          exact decide_eq_true (by omega)
        simp only [e]
        simp -implicitDefEqProofs only [evr, id, reduceCtorEq, reduceIte, Nat.reduceMul, Nat.reduceAdd, Nat.reduceLT, Nat.reduceLeDiff, Nat.reduceEqDiff, Int.reduceLT, Int.reduceBEq, Int.reduceBNe, Nat.reduceBEq, ptr, res_one, res_ro, List.append_nil, Int.toNat_zero, Nat.sub_self, resRow, ledC, res_eqr, res_ell, cft_one, cft_0, cft_1, cft_2, cft_3, beq_self_eq_true, evl]
    simp only [thenK]
    refine Sat.ret ?_
    simp only [Try.results8, evr, id, reduceCtorEq, reduceIte, Nat.reduceMul, Nat.reduceAdd, Nat.reduceLT, Nat.reduceLeDiff, Nat.reduceEqDiff, Int.reduceLT, Int.reduceBEq, Int.reduceBNe, Nat.reduceBEq, ptr, res_one, res_ro, List.append_nil, Int.toNat_zero, Nat.sub_self, resRow, ledC, res_eqr, res_ell, cft_one, cft_0, cft_1, cft_2, cft_3, beq_self_eq_true]
  refine Sat.skip ?_
  simp only [thenK]
  refine Sat.settleBox 6 rfl rfl ?_
  refine Sat.settleBox 7 rfl rfl ?_
  refine Sat.settleBox 8 rfl rfl ?_
  simp only [List.set_cons_succ, List.set_cons_zero, List.length_cons, List.length_nil]
  refine Sat.seq ?_
  (refine Sat.region_k fun k hk => ?_; simp -implicitDefEqProofs only [evr, id, reduceCtorEq, reduceIte, Nat.reduceMul, Nat.reduceAdd, Nat.reduceLT, Nat.reduceLeDiff, Nat.reduceEqDiff, Int.reduceLT, Int.reduceBEq, Int.reduceBNe, Nat.reduceBEq, ptr, res_one, res_ro, List.append_nil, Int.toNat_zero, Nat.sub_self, resRow, ledC, res_eqr, res_ell, cft_one, cft_0, cft_1, cft_2, cft_3, beq_self_eq_true])
  refine wcall_make (newRC (slB a cap z) hb 600 (by decide)) ?_
  intro cb
  simp -implicitDefEqProofs only [evr, id, reduceCtorEq, reduceIte, Nat.reduceMul, Nat.reduceAdd, Nat.reduceLT, Nat.reduceLeDiff, Nat.reduceEqDiff, Int.reduceLT, Int.reduceBEq, Int.reduceBNe, Nat.reduceBEq, ptr, res_one, res_ro, List.append_nil, Int.toNat_zero, Nat.sub_self, resRow, ledC, res_eqr, res_ell, cft_one, cft_0, cft_1, cft_2, cft_3, beq_self_eq_true]
  (refine hk _ ?_; clear hk k; try show Sat _ _ _ _ _)
  refine Sat.switch (cb := cb) (id := 3) (F' := Frm.codes cb) (fun b => Iff.rfl) rfl ?_
  refine Sat.le (st' := ⟨238, [(11, ptr cb), (4, .i .i64 t), (6, .el ⟨blk6, 0, none⟩ 2 fun j => (ledC p).getD j default), (7, .el ⟨blk7, 0, none⟩ 17 fun j => (Res.cs u).getD j default), (8, .el ⟨blk8, 0, none⟩ 17 fun j => (Res.cs v).getD j default)], []⟩) ?_ (by simp -implicitDefEqProofs only [evr, id, reduceCtorEq, reduceIte, Nat.reduceMul, Nat.reduceAdd, Nat.reduceLT, Nat.reduceLeDiff, Nat.reduceEqDiff, Int.reduceLT, Int.reduceBEq, Int.reduceBNe, Nat.reduceBEq, ptr, res_one, res_ro, List.append_nil, Int.toNat_zero, Nat.sub_self, resRow, ledC, res_eqr, res_ell, cft_one, cft_0, cft_1, cft_2, cft_3, beq_self_eq_true, evl]; exact ⟨rfl, rfl⟩)
  (repeat refine Sat.seq ?_)
  (refine Sat.region_k fun k hk => ?_; simp -implicitDefEqProofs only [evr, id, reduceCtorEq, reduceIte, Nat.reduceMul, Nat.reduceAdd, Nat.reduceLT, Nat.reduceLeDiff, Nat.reduceEqDiff, Int.reduceLT, Int.reduceBEq, Int.reduceBNe, Nat.reduceBEq, ptr, res_one, res_ro, List.append_nil, Int.toNat_zero, Nat.sub_self, resRow, ledC, res_eqr, res_ell, cft_one, cft_0, cft_1, cft_2, cft_3, beq_self_eq_true])
  refine wcall_new (resultsC cb 9 (by decide)) rfl rfl ?_
  rintro ra ty len rc sz rrd ⟨ra', rc', lx, hlx, hwx, e⟩
  simp only [resRow, Own.row.injEq] at e
  obtain ⟨rfl, rfl, rfl, rfl, rfl, rfl⟩ := e
  simp -implicitDefEqProofs only [evr, id, reduceCtorEq, reduceIte, Nat.reduceMul, Nat.reduceAdd, Nat.reduceLT, Nat.reduceLeDiff, Nat.reduceEqDiff, Int.reduceLT, Int.reduceBEq, Int.reduceBNe, Nat.reduceBEq, ptr, res_one, res_ro, List.append_nil, Int.toNat_zero, Nat.sub_self, resRow, ledC, res_eqr, res_ell, cft_one, cft_0, cft_1, cft_2, cft_3, beq_self_eq_true]
  refine wcall_slice (ofL (Frm.codes cb) ra rc lx (by omega) (fun x hx => (hwx x hx).2)) rfl (by simp -implicitDefEqProofs only [evr, id, reduceCtorEq, reduceIte, Nat.reduceMul, Nat.reduceAdd, Nat.reduceLT, Nat.reduceLeDiff, Nat.reduceEqDiff, Int.reduceLT, Int.reduceBEq, Int.reduceBNe, Nat.reduceBEq, ptr, res_one, res_ro, List.append_nil, Int.toNat_zero, Nat.sub_self, resRow, ledC, res_eqr, res_ell, cft_one, cft_0, cft_1, cft_2, cft_3, beq_self_eq_true]) ?_
  rintro r ⟨x, hx, rfl⟩
  simp -implicitDefEqProofs only [evr, id, reduceCtorEq, reduceIte, Nat.reduceMul, Nat.reduceAdd, Nat.reduceLT, Nat.reduceLeDiff, Nat.reduceEqDiff, Int.reduceLT, Int.reduceBEq, Int.reduceBNe, Nat.reduceBEq, ptr, res_one, res_ro, List.append_nil, Int.toNat_zero, Nat.sub_self, resRow, ledC, res_eqr, res_ell, cft_one, cft_0, cft_1, cft_2, cft_3, beq_self_eq_true, ledS]
  refine wcall_new (resultsC cb 9 (by decide)) rfl rfl ?_
  rintro ra ty len rc sz rrd ⟨ra', rc', ly, hly, hwy, e⟩
  simp only [resRow, Own.row.injEq] at e
  obtain ⟨rfl, rfl, rfl, rfl, rfl, rfl⟩ := e
  simp -implicitDefEqProofs only [evr, id, reduceCtorEq, reduceIte, Nat.reduceMul, Nat.reduceAdd, Nat.reduceLT, Nat.reduceLeDiff, Nat.reduceEqDiff, Int.reduceLT, Int.reduceBEq, Int.reduceBNe, Nat.reduceBEq, ptr, res_one, res_ro, List.append_nil, Int.toNat_zero, Nat.sub_self, resRow, ledC, res_eqr, res_ell, cft_one, cft_0, cft_1, cft_2, cft_3, beq_self_eq_true]
  refine wcall_slice (ofL (Frm.codes cb) ra rc ly (by omega) (fun x hx => (hwy x hx).2)) rfl (by simp -implicitDefEqProofs only [evr, id, reduceCtorEq, reduceIte, Nat.reduceMul, Nat.reduceAdd, Nat.reduceLT, Nat.reduceLeDiff, Nat.reduceEqDiff, Int.reduceLT, Int.reduceBEq, Int.reduceBNe, Nat.reduceBEq, ptr, res_one, res_ro, List.append_nil, Int.toNat_zero, Nat.sub_self, resRow, ledC, res_eqr, res_ell, cft_one, cft_0, cft_1, cft_2, cft_3, beq_self_eq_true]) ?_
  rintro r ⟨y, hy, rfl⟩
  simp -implicitDefEqProofs only [evr, id, reduceCtorEq, reduceIte, Nat.reduceMul, Nat.reduceAdd, Nat.reduceLT, Nat.reduceLeDiff, Nat.reduceEqDiff, Int.reduceLT, Int.reduceBEq, Int.reduceBNe, Nat.reduceBEq, ptr, res_one, res_ro, List.append_nil, Int.toNat_zero, Nat.sub_self, resRow, ledC, res_eqr, res_ell, cft_one, cft_0, cft_1, cft_2, cft_3, beq_self_eq_true, ledS]
  intro ba bb
  (refine hk _ ?_; clear hk k; try show Sat _ _ _ _ _)
  (repeat refine Sat.seq ?_)
  (refine Sat.region_k fun k hk => ?_; simp -implicitDefEqProofs only [evr, id, reduceCtorEq, reduceIte, Nat.reduceMul, Nat.reduceAdd, Nat.reduceLT, Nat.reduceLeDiff, Nat.reduceEqDiff, Int.reduceLT, Int.reduceBEq, Int.reduceBNe, Nat.reduceBEq, ptr, res_one, res_ro, List.append_nil, Int.toNat_zero, Nat.sub_self, resRow, ledC, res_eqr, res_ell, cft_one, cft_0, cft_1, cft_2, cft_3, beq_self_eq_true])
  refine wcall_new (resultsC cb 5 (by decide)) rfl rfl ?_
  rintro rl ty len rcl sz rrd ⟨ra', rc', ll, hll, hwl, e⟩
  simp only [resRow, Own.row.injEq] at e
  obtain ⟨rfl, rfl, rfl, rfl, rfl, rfl⟩ := e
  simp -implicitDefEqProofs only [evr, id, reduceCtorEq, reduceIte, Nat.reduceMul, Nat.reduceAdd, Nat.reduceLT, Nat.reduceLeDiff, Nat.reduceEqDiff, Int.reduceLT, Int.reduceBEq, Int.reduceBNe, Nat.reduceBEq, ptr, res_one, res_ro, List.append_nil, Int.toNat_zero, Nat.sub_self, resRow, ledC, res_eqr, res_ell, cft_one, cft_0, cft_1, cft_2, cft_3, beq_self_eq_true]
  (refine hk _ ?_; clear hk k; try show Sat _ _ _ _ _)
  refine Sat.settle2 14 rfl rfl ?_
  simp -implicitDefEqProofs only [evr, id, reduceCtorEq, reduceIte, Nat.reduceMul, Nat.reduceAdd, Nat.reduceLT, Nat.reduceLeDiff, Nat.reduceEqDiff, Int.reduceLT, Int.reduceBEq, Int.reduceBNe, Nat.reduceBEq, ptr, res_one, res_ro, List.append_nil, Int.toNat_zero, Nat.sub_self, resRow, ledC, res_eqr, res_ell, cft_one, cft_0, cft_1, cft_2, cft_3, beq_self_eq_true]
  refine Sat.le (st' := ⟨238, [(14, .sl rl ll.length rcl 17 (resRd ll.toArray)), (13, .op 3 bb 0), (12, .op 2 ba 0), (11, ptr cb), (4, .i .i64 t), (6, .el ⟨blk6, 0, none⟩ 2 fun j => (ledC p).getD j default), (7, .el ⟨blk7, 0, none⟩ 17 fun j => (Res.cs u).getD j default), (8, .el ⟨blk8, 0, none⟩ 17 fun j => (Res.cs v).getD j default)],
    [.gone, .gone, .box ba 30 (ledC x), .box bb 30 (ledC y)]⟩) ?_ (by simp -implicitDefEqProofs only [evr, id, reduceCtorEq, reduceIte, Nat.reduceMul, Nat.reduceAdd, Nat.reduceLT, Nat.reduceLeDiff, Nat.reduceEqDiff, Int.reduceLT, Int.reduceBEq, Int.reduceBNe, Nat.reduceBEq, ptr, res_one, res_ro, List.append_nil, Int.toNat_zero, Nat.sub_self, resRow, ledC, res_eqr, res_ell, cft_one, cft_0, cft_1, cft_2, cft_3, beq_self_eq_true, evl]; try (first | exact ⟨rfl, rfl⟩ | exact ⟨rfl, rfl, rfl⟩ | rfl))
  (repeat refine Sat.seq ?_)
  (refine Sat.region_k fun k hk => ?_; simp -implicitDefEqProofs only [evr, id, reduceCtorEq, reduceIte, Nat.reduceMul, Nat.reduceAdd, Nat.reduceLT, Nat.reduceLeDiff, Nat.reduceEqDiff, Int.reduceLT, Int.reduceBEq, Int.reduceBNe, Nat.reduceBEq, ptr, res_one, res_ro, List.append_nil, Int.toNat_zero, Nat.sub_self, resRow, ledC, res_eqr, res_ell, cft_one, cft_0, cft_1, cft_2, cft_3, beq_self_eq_true])
  refine wcall_slice (addL (Frm.codes cb) hx rl rcl ll (by omega)) rfl (by simp -implicitDefEqProofs only [evr, id, reduceCtorEq, reduceIte, Nat.reduceMul, Nat.reduceAdd, Nat.reduceLT, Nat.reduceLeDiff, Nat.reduceEqDiff, Int.reduceLT, Int.reduceBEq, Int.reduceBNe, Nat.reduceBEq, ptr, res_one, res_ro, List.append_nil, Int.toNat_zero, Nat.sub_self, resRow, ledC, res_eqr, res_ell, cft_one, cft_0, cft_1, cft_2, cft_3, beq_self_eq_true]; rfl) ?_
  rintro r ⟨a1, ha1, rfl⟩
  simp -implicitDefEqProofs only [evr, id, reduceCtorEq, reduceIte, Nat.reduceMul, Nat.reduceAdd, Nat.reduceLT, Nat.reduceLeDiff, Nat.reduceEqDiff, Int.reduceLT, Int.reduceBEq, Int.reduceBNe, Nat.reduceBEq, ptr, res_one, res_ro, List.append_nil, Int.toNat_zero, Nat.sub_self, resRow, ledC, res_eqr, res_ell, cft_one, cft_0, cft_1, cft_2, cft_3, beq_self_eq_true, ledS]
  intro b15
  (refine hk _ ?_; clear hk k; try show Sat _ _ _ _ _)
  (repeat refine Sat.seq ?_)
  (refine Sat.region_k fun k hk => ?_; simp -implicitDefEqProofs only [evr, id, reduceCtorEq, reduceIte, Nat.reduceMul, Nat.reduceAdd, Nat.reduceLT, Nat.reduceLeDiff, Nat.reduceEqDiff, Int.reduceLT, Int.reduceBEq, Int.reduceBNe, Nat.reduceBEq, ptr, res_one, res_ro, List.append_nil, Int.toNat_zero, Nat.sub_self, resRow, ledC, res_eqr, res_ell, cft_one, cft_0, cft_1, cft_2, cft_3, beq_self_eq_true])
  refine wcall_slice (raddL (Frm.codes cb) hx rl rcl ll (by omega) (fun x hx => (hwx x hx).2) (fun x hx => (hwl x hx).2)) rfl (by simp -implicitDefEqProofs only [evr, id, reduceCtorEq, reduceIte, Nat.reduceMul, Nat.reduceAdd, Nat.reduceLT, Nat.reduceLeDiff, Nat.reduceEqDiff, Int.reduceLT, Int.reduceBEq, Int.reduceBNe, Nat.reduceBEq, ptr, res_one, res_ro, List.append_nil, Int.toNat_zero, Nat.sub_self, resRow, ledC, res_eqr, res_ell, cft_one, cft_0, cft_1, cft_2, cft_3, beq_self_eq_true]; rfl) ?_
  rintro r ⟨a2, ha2, rfl⟩
  simp -implicitDefEqProofs only [evr, id, reduceCtorEq, reduceIte, Nat.reduceMul, Nat.reduceAdd, Nat.reduceLT, Nat.reduceLeDiff, Nat.reduceEqDiff, Int.reduceLT, Int.reduceBEq, Int.reduceBNe, Nat.reduceBEq, ptr, res_one, res_ro, List.append_nil, Int.toNat_zero, Nat.sub_self, resRow, ledC, res_eqr, res_ell, cft_one, cft_0, cft_1, cft_2, cft_3, beq_self_eq_true, ledS]
  intro b17
  (refine hk _ ?_; clear hk k; try show Sat _ _ _ _ _)
  (repeat refine Sat.seq ?_)
  (refine Sat.region_k fun k hk => ?_; simp -implicitDefEqProofs only [evr, id, reduceCtorEq, reduceIte, Nat.reduceMul, Nat.reduceAdd, Nat.reduceLT, Nat.reduceLeDiff, Nat.reduceEqDiff, Int.reduceLT, Int.reduceBEq, Int.reduceBNe, Nat.reduceBEq, ptr, res_one, res_ro, List.append_nil, Int.toNat_zero, Nat.sub_self, resRow, ledC, res_eqr, res_ell, cft_one, cft_0, cft_1, cft_2, cft_3, beq_self_eq_true])
  refine wcall_plain (lsameL (Frm.codes cb) ha1 ha2 (by omega) (by omega) (fun _ => Iff.rfl)) (by simp -implicitDefEqProofs only [evr, id, reduceCtorEq, reduceIte, Nat.reduceMul, Nat.reduceAdd, Nat.reduceLT, Nat.reduceLeDiff, Nat.reduceEqDiff, Int.reduceLT, Int.reduceBEq, Int.reduceBNe, Nat.reduceBEq, ptr, res_one, res_ro, List.append_nil, Int.toNat_zero, Nat.sub_self, resRow, ledC, res_eqr, res_ell, cft_one, cft_0, cft_1, cft_2, cft_3, beq_self_eq_true]; rfl) (by rintro _ rfl; exact ok_plain rfl) ?_
  rintro r rfl
  simp -implicitDefEqProofs only [evr, id, reduceCtorEq, reduceIte, Nat.reduceMul, Nat.reduceAdd, Nat.reduceLT, Nat.reduceLeDiff, Nat.reduceEqDiff, Int.reduceLT, Int.reduceBEq, Int.reduceBNe, Nat.reduceBEq, ptr, res_one, res_ro, List.append_nil, Int.toNat_zero, Nat.sub_self, resRow, ledC, res_eqr, res_ell, cft_one, cft_0, cft_1, cft_2, cft_3, beq_self_eq_true]
  (refine hk _ ?_; clear hk k; try show Sat _ _ _ _ _)
  refine Sat.cond_b rfl (fun h => absurd h (by decide)) (fun _ => ?_)
  refine Sat.skip ?_
  simp only [thenK]
  (repeat refine Sat.seq ?_)
  (refine Sat.region_k fun k hk => ?_; simp -implicitDefEqProofs only [evr, id, reduceCtorEq, reduceIte, Nat.reduceMul, Nat.reduceAdd, Nat.reduceLT, Nat.reduceLeDiff, Nat.reduceEqDiff, Int.reduceLT, Int.reduceBEq, Int.reduceBNe, Nat.reduceBEq, ptr, res_one, res_ro, List.append_nil, Int.toNat_zero, Nat.sub_self, resRow, ledC, res_eqr, res_ell, cft_one, cft_0, cft_1, cft_2, cft_3, beq_self_eq_true])
  refine wcall_slice (unionL (Frm.codes cb) hx hy (by omega)) rfl (by simp -implicitDefEqProofs only [evr, id, reduceCtorEq, reduceIte, Nat.reduceMul, Nat.reduceAdd, Nat.reduceLT, Nat.reduceLeDiff, Nat.reduceEqDiff, Int.reduceLT, Int.reduceBEq, Int.reduceBNe, Nat.reduceBEq, ptr, res_one, res_ro, List.append_nil, Int.toNat_zero, Nat.sub_self, resRow, ledC, res_eqr, res_ell, cft_one, cft_0, cft_1, cft_2, cft_3, beq_self_eq_true]; rfl) ?_
  rintro r ⟨u1, hu1, rfl⟩
  simp -implicitDefEqProofs only [evr, id, reduceCtorEq, reduceIte, Nat.reduceMul, Nat.reduceAdd, Nat.reduceLT, Nat.reduceLeDiff, Nat.reduceEqDiff, Int.reduceLT, Int.reduceBEq, Int.reduceBNe, Nat.reduceBEq, ptr, res_one, res_ro, List.append_nil, Int.toNat_zero, Nat.sub_self, resRow, ledC, res_eqr, res_ell, cft_one, cft_0, cft_1, cft_2, cft_3, beq_self_eq_true, ledS]
  (refine hk _ ?_; clear hk k; try show Sat _ _ _ _ _)
  (repeat refine Sat.seq ?_)
  (refine Sat.region_k fun k hk => ?_; simp -implicitDefEqProofs only [evr, id, reduceCtorEq, reduceIte, Nat.reduceMul, Nat.reduceAdd, Nat.reduceLT, Nat.reduceLeDiff, Nat.reduceEqDiff, Int.reduceLT, Int.reduceBEq, Int.reduceBNe, Nat.reduceBEq, ptr, res_one, res_ro, List.append_nil, Int.toNat_zero, Nat.sub_self, resRow, ledC, res_eqr, res_ell, cft_one, cft_0, cft_1, cft_2, cft_3, beq_self_eq_true])
  refine wcall_slice (runionL (Frm.codes cb) hx hy (by omega) (fun x hx => (hwx x hx).2) (fun x hx => (hwy x hx).2)) rfl (by simp -implicitDefEqProofs only [evr, id, reduceCtorEq, reduceIte, Nat.reduceMul, Nat.reduceAdd, Nat.reduceLT, Nat.reduceLeDiff, Nat.reduceEqDiff, Int.reduceLT, Int.reduceBEq, Int.reduceBNe, Nat.reduceBEq, ptr, res_one, res_ro, List.append_nil, Int.toNat_zero, Nat.sub_self, resRow, ledC, res_eqr, res_ell, cft_one, cft_0, cft_1, cft_2, cft_3, beq_self_eq_true]; rfl) ?_
  rintro r ⟨y2, hy2, rfl⟩
  simp -implicitDefEqProofs only [evr, id, reduceCtorEq, reduceIte, Nat.reduceMul, Nat.reduceAdd, Nat.reduceLT, Nat.reduceLeDiff, Nat.reduceEqDiff, Int.reduceLT, Int.reduceBEq, Int.reduceBNe, Nat.reduceBEq, ptr, res_one, res_ro, List.append_nil, Int.toNat_zero, Nat.sub_self, resRow, ledC, res_eqr, res_ell, cft_one, cft_0, cft_1, cft_2, cft_3, beq_self_eq_true, ledS]
  (refine hk _ ?_; clear hk k; try show Sat _ _ _ _ _)
  have hwf : ∀ r, r ∈ lx ++ ly → wfR r := fun r hr => by
    rcases List.mem_append.1 hr with hr | hr
    · exact (hwx r hr).2
    · exact (hwy r hr).2
  have hck : ∀ r, r ∈ lx ++ ly → chk r = 0 := fun r hr => by
    rcases List.mem_append.1 hr with hr | hr
    · exact (hwx r hr).1
    · exact (hwy r hr).1
  (repeat refine Sat.seq ?_)
  refine Sat.join2 (ι := Unit) (fun _ => ⟨238, [(105, .b false), (17, .op 5 b17 0), (11, ptr cb), (4, .i .i64 t), (6, .el ⟨blk6, 0, none⟩ 2 fun j => (ledC p).getD j default), (7, .el ⟨blk7, 0, none⟩ 17 fun j => (Res.cs u).getD j default), (8, .el ⟨blk8, 0, none⟩ 17 fun j => (Res.cs v).getD j default)], [.gone, .gone, .gone, .gone, .gone, .box b17 30 (ledC y2)]⟩) (fun _ => True) (fun hrest => ?_) ?_
  · (refine Sat.region_tree (.keep [1, 3, 0, 2] [] (.one 4 (.one 5 (.one 6 (.alt 7 (.alt 8 (.one 9 (.one 10 (.one 11 (.one 12 .done)))) (.alt 9 (.one 8 (.one 10 (.one 11 (.one 12 .done)))) .none)) (.alt 9 (.one 7 (.one 8 (.one 10 (.one 11 (.one 12 .done))))) .none)))))) (by kernel_rfl) (by kernel_rfl) (fun _ _ h => h) fun k hk => ?_; simp only [WOT, List.map_cons, List.map_nil, List.getD_cons_zero, List.getD_cons_succ]; simp -implicitDefEqProofs only [evr, id, reduceCtorEq, reduceIte, Nat.reduceMul, Nat.reduceAdd, Nat.reduceLT, Nat.reduceLeDiff, Nat.reduceEqDiff, Int.reduceLT, Int.reduceBEq, Int.reduceBNe, Nat.reduceBEq, ptr, res_one, res_ro, List.append_nil, Int.toNat_zero, Nat.sub_self, resRow, ledC, res_eqr, res_ell, cft_one, cft_0, cft_1, cft_2, cft_3, beq_self_eq_true, WOT])
    refine wcall_plain (lsameL (Frm.codes cb) hu1 hy2 (by omega) (by omega) (fun _ => Iff.rfl)) (by simp -implicitDefEqProofs only [evr, id, reduceCtorEq, reduceIte, Nat.reduceMul, Nat.reduceAdd, Nat.reduceLT, Nat.reduceLeDiff, Nat.reduceEqDiff, Int.reduceLT, Int.reduceBEq, Int.reduceBNe, Nat.reduceBEq, ptr, res_one, res_ro, List.append_nil, Int.toNat_zero, Nat.sub_self, resRow, ledC, res_eqr, res_ell, cft_one, cft_0, cft_1, cft_2, cft_3, beq_self_eq_true]; rfl) (by rintro _ rfl; exact ok_plain rfl) ?_
    rintro r rfl
    simp -implicitDefEqProofs only [evr, id, reduceCtorEq, reduceIte, Nat.reduceMul, Nat.reduceAdd, Nat.reduceLT, Nat.reduceLeDiff, Nat.reduceEqDiff, Int.reduceLT, Int.reduceBEq, Int.reduceBNe, Nat.reduceBEq, ptr, res_one, res_ro, List.append_nil, Int.toNat_zero, Nat.sub_self, resRow, ledC, res_eqr, res_ell, cft_one, cft_0, cft_1, cft_2, cft_3, beq_self_eq_true]
    repeat' (first
      | (refine wcall_plain (sizeL (Frm.codes cb) hy2 (by omega)) (by simp -implicitDefEqProofs only [evr, id, reduceCtorEq, reduceIte, Nat.reduceMul, Nat.reduceAdd, Nat.reduceLT, Nat.reduceLeDiff, Nat.reduceEqDiff, Int.reduceLT, Int.reduceBEq, Int.reduceBNe, Nat.reduceBEq, ptr, res_one, res_ro, List.append_nil, Int.toNat_zero, Nat.sub_self, resRow, ledC, res_eqr, res_ell, cft_one, cft_0, cft_1, cft_2, cft_3, beq_self_eq_true]; rfl) (by rintro _ rfl; exact ok_plain rfl) ?_; rintro r rfl; simp -implicitDefEqProofs only [evr, id, reduceCtorEq, reduceIte, Nat.reduceMul, Nat.reduceAdd, Nat.reduceLT, Nat.reduceLeDiff, Nat.reduceEqDiff, Int.reduceLT, Int.reduceBEq, Int.reduceBNe, Nat.reduceBEq, ptr, res_one, res_ro, List.append_nil, Int.toNat_zero, Nat.sub_self, resRow, ledC, res_eqr, res_ell, cft_one, cft_0, cft_1, cft_2, cft_3, beq_self_eq_true])
      | (refine wcall_plain (rsizeL (Frm.codes cb) hy2 (by omega)) (by simp -implicitDefEqProofs only [evr, id, reduceCtorEq, reduceIte, Nat.reduceMul, Nat.reduceAdd, Nat.reduceLT, Nat.reduceLeDiff, Nat.reduceEqDiff, Int.reduceLT, Int.reduceBEq, Int.reduceBNe, Nat.reduceBEq, ptr, res_one, res_ro, List.append_nil, Int.toNat_zero, Nat.sub_self, resRow, ledC, res_eqr, res_ell, cft_one, cft_0, cft_1, cft_2, cft_3, beq_self_eq_true]; rfl) (by rintro _ rfl; exact ok_plain rfl) ?_; rintro r rfl; simp -implicitDefEqProofs only [evr, id, reduceCtorEq, reduceIte, Nat.reduceMul, Nat.reduceAdd, Nat.reduceLT, Nat.reduceLeDiff, Nat.reduceEqDiff, Int.reduceLT, Int.reduceBEq, Int.reduceBNe, Nat.reduceBEq, ptr, res_one, res_ro, List.append_nil, Int.toNat_zero, Nat.sub_self, resRow, ledC, res_eqr, res_ell, cft_one, cft_0, cft_1, cft_2, cft_3, beq_self_eq_true, bne_self_eq_false])
      | (refine And.intro ?_ ?_))
    all_goals
      refine hk _ ?_
      clear hk
      simp only [thenK]
      refine Sat.le (hrest () trivial) ?_
      simp -implicitDefEqProofs only [evr, id, reduceCtorEq, reduceIte, Nat.reduceMul, Nat.reduceAdd, Nat.reduceLT, Nat.reduceLeDiff, Nat.reduceEqDiff, Int.reduceLT, Int.reduceBEq, Int.reduceBNe, Nat.reduceBEq, ptr, res_one, res_ro, List.append_nil, Int.toNat_zero, Nat.sub_self, resRow, ledC, res_eqr, res_ell, cft_one, cft_0, cft_1, cft_2, cft_3, beq_self_eq_true, evl]
      try (first | exact ⟨rfl, rfl⟩ | exact ⟨rfl, rfl, rfl⟩ | rfl)
  rintro ⟨⟩ _
  simp only [ledC, Res.cs]
  refine Sat.cond_b rfl (fun h => absurd h (by decide)) (fun _ => ?_)
  refine Sat.skip ?_
  simp only [thenK]
  (repeat refine Sat.seq ?_)
  (refine Sat.region_k fun k hk => ?_; simp -implicitDefEqProofs only [evr, id, reduceCtorEq, reduceIte, Nat.reduceMul, Nat.reduceAdd, Nat.reduceLT, Nat.reduceLeDiff, Nat.reduceEqDiff, Int.reduceLT, Int.reduceBEq, Int.reduceBNe, Nat.reduceBEq, ptr, res_one, res_ro, List.append_nil, Int.toNat_zero, Nat.sub_self, resRow, ledC, res_eqr, res_ell, cft_one, cft_0, cft_1, cft_2, cft_3, beq_self_eq_true])
  refine wcall_plain (nextC cb 60 (by omega) (by omega)) rfl (plain_next (n := 60)) ?_
  rintro r ⟨t2, rfl, _, _⟩
  simp -implicitDefEqProofs only [evr, id, reduceCtorEq, reduceIte, Nat.reduceMul, Nat.reduceAdd, Nat.reduceLT, Nat.reduceLeDiff, Nat.reduceEqDiff, Int.reduceLT, Int.reduceBEq, Int.reduceBNe, Nat.reduceBEq, ptr, res_one, res_ro, List.append_nil, Int.toNat_zero, Nat.sub_self, resRow, ledC, res_eqr, res_ell, cft_one, cft_0, cft_1, cft_2, cft_3, beq_self_eq_true]
  (refine hk _ ?_; clear hk k; try show Sat _ _ _ _ _)
  (repeat refine Sat.seq ?_)
  refine Sat.join2 (ι := Unit) (fun _ => ⟨238, [(125, .b false), (17, .op 5 b17 0), (11, ptr cb), (4, .i .i64 t), (6, .el ⟨blk6, 0, none⟩ 2 fun j => (ledC p).getD j default), (7, .el ⟨blk7, 0, none⟩ 17 fun j => (Res.cs u).getD j default), (8, .el ⟨blk8, 0, none⟩ 17 fun j => (Res.cs v).getD j default)], [.gone, .gone, .gone, .gone, .gone, .box b17 30 (ledC y2)]⟩) (fun _ => True) (fun hrest => ?_) ?_
  · (refine Sat.region_tree (.keep [1, 4, 0, 3] [2] (.one 2 (.one 5 (.one 6 (.one 7 (.one 8 (.free 10 (.free 13 (.alt 9 (.alt 11 (.one 12 (.one 14 (.one 15 (.one 16 (.one 17 .done))))) (.alt 12 (.one 11 (.one 14 (.one 15 (.one 16 (.one 17 .done))))) .none)) (.alt 12 (.one 9 (.one 11 (.one 14 (.one 15 (.one 16 (.one 17 .done)))))) .none)))))))))) (by kernel_rfl) (by kernel_rfl) (fun _ _ h => h) fun k hk => ?_; simp only [WOT, List.map_cons, List.map_nil, List.getD_cons_zero, List.getD_cons_succ]; simp -implicitDefEqProofs only [evr, id, reduceCtorEq, reduceIte, Nat.reduceMul, Nat.reduceAdd, Nat.reduceLT, Nat.reduceLeDiff, Nat.reduceEqDiff, Int.reduceLT, Int.reduceBEq, Int.reduceBNe, Nat.reduceBEq, ptr, res_one, res_ro, List.append_nil, Int.toNat_zero, Nat.sub_self, resRow, ledC, res_eqr, res_ell, cft_one, cft_0, cft_1, cft_2, cft_3, beq_self_eq_true, WOT])
    repeat' (first
      | (refine wcall_slice (untilL (Frm.codes cb) hy2 (by omega) t) rfl (by simp -implicitDefEqProofs only [evr, id, reduceCtorEq, reduceIte, Nat.reduceMul, Nat.reduceAdd, Nat.reduceLT, Nat.reduceLeDiff, Nat.reduceEqDiff, Int.reduceLT, Int.reduceBEq, Int.reduceBNe, Nat.reduceBEq, ptr, res_one, res_ro, List.append_nil, Int.toNat_zero, Nat.sub_self, resRow, ledC, res_eqr, res_ell, cft_one, cft_0, cft_1, cft_2, cft_3, beq_self_eq_true]; rfl) ?_; rintro r ⟨q1, hq1, rfl⟩; simp -implicitDefEqProofs only [evr, id, reduceCtorEq, reduceIte, Nat.reduceMul, Nat.reduceAdd, Nat.reduceLT, Nat.reduceLeDiff, Nat.reduceEqDiff, Int.reduceLT, Int.reduceBEq, Int.reduceBNe, Nat.reduceBEq, ptr, res_one, res_ro, List.append_nil, Int.toNat_zero, Nat.sub_self, resRow, ledC, res_eqr, res_ell, cft_one, cft_0, cft_1, cft_2, cft_3, beq_self_eq_true, ledS])
      | (refine wcall_slice (runtilL (Frm.codes cb) hy2 (by omega) t hwf) rfl (by simp -implicitDefEqProofs only [evr, id, reduceCtorEq, reduceIte, Nat.reduceMul, Nat.reduceAdd, Nat.reduceLT, Nat.reduceLeDiff, Nat.reduceEqDiff, Int.reduceLT, Int.reduceBEq, Int.reduceBNe, Nat.reduceBEq, ptr, res_one, res_ro, List.append_nil, Int.toNat_zero, Nat.sub_self, resRow, ledC, res_eqr, res_ell, cft_one, cft_0, cft_1, cft_2, cft_3, beq_self_eq_true]; rfl) ?_; rintro r ⟨q2, hq2, rfl⟩; simp -implicitDefEqProofs only [evr, id, reduceCtorEq, reduceIte, Nat.reduceMul, Nat.reduceAdd, Nat.reduceLT, Nat.reduceLeDiff, Nat.reduceEqDiff, Int.reduceLT, Int.reduceBEq, Int.reduceBNe, Nat.reduceBEq, ptr, res_one, res_ro, List.append_nil, Int.toNat_zero, Nat.sub_self, resRow, ledC, res_eqr, res_ell, cft_one, cft_0, cft_1, cft_2, cft_3, beq_self_eq_true, ledS])
      | (refine wcall_plain (sameL (Frm.codes cb) hq3 hq4 (by omega) (by omega) (fun _ => Iff.rfl)) (by simp -implicitDefEqProofs only [evr, id, reduceCtorEq, reduceIte, Nat.reduceMul, Nat.reduceAdd, Nat.reduceLT, Nat.reduceLeDiff, Nat.reduceEqDiff, Int.reduceLT, Int.reduceBEq, Int.reduceBNe, Nat.reduceBEq, ptr, res_one, res_ro, List.append_nil, Int.toNat_zero, Nat.sub_self, resRow, ledC, res_eqr, res_ell, cft_one, cft_0, cft_1, cft_2, cft_3, beq_self_eq_true]; rfl) (by rintro _ rfl; exact ok_plain rfl) ?_; rintro r rfl; simp -implicitDefEqProofs only [evr, id, reduceCtorEq, reduceIte, Nat.reduceMul, Nat.reduceAdd, Nat.reduceLT, Nat.reduceLeDiff, Nat.reduceEqDiff, Int.reduceLT, Int.reduceBEq, Int.reduceBNe, Nat.reduceBEq, ptr, res_one, res_ro, List.append_nil, Int.toNat_zero, Nat.sub_self, resRow, ledC, res_eqr, res_ell, cft_one, cft_0, cft_1, cft_2, cft_3, beq_self_eq_true])
      | (refine wcall_plain (sameL (Frm.codes cb) hq1 hq2 (by omega) (by omega) (fun _ => Iff.rfl)) (by simp -implicitDefEqProofs only [evr, id, reduceCtorEq, reduceIte, Nat.reduceMul, Nat.reduceAdd, Nat.reduceLT, Nat.reduceLeDiff, Nat.reduceEqDiff, Int.reduceLT, Int.reduceBEq, Int.reduceBNe, Nat.reduceBEq, ptr, res_one, res_ro, List.append_nil, Int.toNat_zero, Nat.sub_self, resRow, ledC, res_eqr, res_ell, cft_one, cft_0, cft_1, cft_2, cft_3, beq_self_eq_true]; rfl) (by rintro _ rfl; exact ok_plain rfl) ?_; rintro r rfl; simp -implicitDefEqProofs only [evr, id, reduceCtorEq, reduceIte, Nat.reduceMul, Nat.reduceAdd, Nat.reduceLT, Nat.reduceLeDiff, Nat.reduceEqDiff, Int.reduceLT, Int.reduceBEq, Int.reduceBNe, Nat.reduceBEq, ptr, res_one, res_ro, List.append_nil, Int.toNat_zero, Nat.sub_self, resRow, ledC, res_eqr, res_ell, cft_one, cft_0, cft_1, cft_2, cft_3, beq_self_eq_true])
      | (refine wcall_slice (untilL (Frm.codes cb) hy2 (by omega) t2) rfl (by simp -implicitDefEqProofs only [evr, id, reduceCtorEq, reduceIte, Nat.reduceMul, Nat.reduceAdd, Nat.reduceLT, Nat.reduceLeDiff, Nat.reduceEqDiff, Int.reduceLT, Int.reduceBEq, Int.reduceBNe, Nat.reduceBEq, ptr, res_one, res_ro, List.append_nil, Int.toNat_zero, Nat.sub_self, resRow, ledC, res_eqr, res_ell, cft_one, cft_0, cft_1, cft_2, cft_3, beq_self_eq_true]; rfl) ?_; rintro r ⟨q3, hq3, rfl⟩; simp -implicitDefEqProofs only [evr, id, reduceCtorEq, reduceIte, Nat.reduceMul, Nat.reduceAdd, Nat.reduceLT, Nat.reduceLeDiff, Nat.reduceEqDiff, Int.reduceLT, Int.reduceBEq, Int.reduceBNe, Nat.reduceBEq, ptr, res_one, res_ro, List.append_nil, Int.toNat_zero, Nat.sub_self, resRow, ledC, res_eqr, res_ell, cft_one, cft_0, cft_1, cft_2, cft_3, beq_self_eq_true, ledS])
      | (refine wcall_slice (runtilL (Frm.codes cb) hy2 (by omega) t2 hwf) rfl (by simp -implicitDefEqProofs only [evr, id, reduceCtorEq, reduceIte, Nat.reduceMul, Nat.reduceAdd, Nat.reduceLT, Nat.reduceLeDiff, Nat.reduceEqDiff, Int.reduceLT, Int.reduceBEq, Int.reduceBNe, Nat.reduceBEq, ptr, res_one, res_ro, List.append_nil, Int.toNat_zero, Nat.sub_self, resRow, ledC, res_eqr, res_ell, cft_one, cft_0, cft_1, cft_2, cft_3, beq_self_eq_true]; rfl) ?_; rintro r ⟨q4, hq4, rfl⟩; simp -implicitDefEqProofs only [evr, id, reduceCtorEq, reduceIte, Nat.reduceMul, Nat.reduceAdd, Nat.reduceLT, Nat.reduceLeDiff, Nat.reduceEqDiff, Int.reduceLT, Int.reduceBEq, Int.reduceBNe, Nat.reduceBEq, ptr, res_one, res_ro, List.append_nil, Int.toNat_zero, Nat.sub_self, resRow, ledC, res_eqr, res_ell, cft_one, cft_0, cft_1, cft_2, cft_3, beq_self_eq_true, ledS])
      | (refine And.intro ?_ ?_))
    all_goals
      refine hk _ ?_
      clear hk
      simp only [thenK]
      refine Sat.le (hrest () trivial) ?_
      simp -implicitDefEqProofs only [evr, id, reduceCtorEq, reduceIte, Nat.reduceMul, Nat.reduceAdd, Nat.reduceLT, Nat.reduceLeDiff, Nat.reduceEqDiff, Int.reduceLT, Int.reduceBEq, Int.reduceBNe, Nat.reduceBEq, ptr, res_one, res_ro, List.append_nil, Int.toNat_zero, Nat.sub_self, resRow, ledC, res_eqr, res_ell, cft_one, cft_0, cft_1, cft_2, cft_3, beq_self_eq_true, evl]
      try (first | exact ⟨rfl, rfl⟩ | exact ⟨rfl, rfl, rfl⟩ | rfl)
  rintro ⟨⟩ _
  simp only [ledC, Res.cs]
  refine Sat.cond_b rfl (fun h => absurd h (by decide)) (fun _ => ?_)
  refine Sat.skip ?_
  simp only [thenK]
  (repeat refine Sat.seq ?_)
  (refine Sat.region_k fun k hk => ?_; simp -implicitDefEqProofs only [evr, id, reduceCtorEq, reduceIte, Nat.reduceMul, Nat.reduceAdd, Nat.reduceLT, Nat.reduceLeDiff, Nat.reduceEqDiff, Int.reduceLT, Int.reduceBEq, Int.reduceBNe, Nat.reduceBEq, ptr, res_one, res_ro, List.append_nil, Int.toNat_zero, Nat.sub_self, resRow, ledC, res_eqr, res_ell, cft_one, cft_0, cft_1, cft_2, cft_3, beq_self_eq_true]; refine hk _ ?_; clear hk k; try show Sat _ _ _ _ _)
  (repeat refine Sat.seq ?_)
  refine Sat.block ?_
  refine Sat.loop (ι := Nat) (fun i => ⟨238, [(20, .i .i64 i), (17, .op 5 b17 0), (11, ptr cb), (4, .i .i64 t), (6, .el ⟨blk6, 0, none⟩ 2 fun j => (ledC p).getD j default), (7, .el ⟨blk7, 0, none⟩ 17 fun j => (Res.cs u).getD j default), (8, .el ⟨blk8, 0, none⟩ 17 fun j => (Res.cs v).getD j default)], [.gone, .gone, .gone, .gone, .gone, .box b17 30 (ledC y2)]⟩) (fun i => i ≤ 6) (fun i => 6 - i) 0 (Nat.zero_le _) (by simp -implicitDefEqProofs only [evr, id, reduceCtorEq, reduceIte, Nat.reduceMul, Nat.reduceAdd, Nat.reduceLT, Nat.reduceLeDiff, Nat.reduceEqDiff, Int.reduceLT, Int.reduceBEq, Int.reduceBNe, Nat.reduceBEq, ptr, res_one, res_ro, List.append_nil, Int.toNat_zero, Nat.sub_self, resRow, ledC, res_eqr, res_ell, cft_one, cft_0, cft_1, cft_2, cft_3, beq_self_eq_true, evl]; try (first | exact ⟨rfl, rfl⟩ | exact ⟨rfl, rfl, rfl⟩ | rfl)) ?_
  intro i hi
  simp only [ledC, Res.cs]
  (repeat refine Sat.seq ?_)
  (refine Sat.region_k fun k hk => ?_; simp -implicitDefEqProofs only [evr, id, reduceCtorEq, reduceIte, Nat.reduceMul, Nat.reduceAdd, Nat.reduceLT, Nat.reduceLeDiff, Nat.reduceEqDiff, Int.reduceLT, Int.reduceBEq, Int.reduceBNe, Nat.reduceBEq, ptr, res_one, res_ro, List.append_nil, Int.toNat_zero, Nat.sub_self, resRow, ledC, res_eqr, res_ell, cft_one, cft_0, cft_1, cft_2, cft_3, beq_self_eq_true]; refine hk _ ?_; clear hk k; try show Sat _ _ _ _ _)
  (repeat refine Sat.seq ?_)
  refine Sat.cond_b rfl (fun h => ?_) (fun h => ?_)
  · have hi6 : i < 6 := by simp only [decide_eq_true_eq] at h; omega
    have e3 : IntKind.i64.wrap ((i : Int) + 1) = ((i + 1 : Nat) : Int) := by rw [w64 (by omega)]; omega
    refine Sat.skip ?_
    simp only [thenK]
    (repeat refine Sat.seq ?_)
    refine Sat.block ?_
    (repeat refine Sat.seq ?_)
    (refine Sat.region_k fun k hk => ?_; simp -implicitDefEqProofs only [evr, id, reduceCtorEq, reduceIte, Nat.reduceMul, Nat.reduceAdd, Nat.reduceLT, Nat.reduceLeDiff, Nat.reduceEqDiff, Int.reduceLT, Int.reduceBEq, Int.reduceBNe, Nat.reduceBEq, ptr, res_one, res_ro, List.append_nil, Int.toNat_zero, Nat.sub_self, resRow, ledC, res_eqr, res_ell, cft_one, cft_0, cft_1, cft_2, cft_3, beq_self_eq_true])
    refine wcall_plain (nextC cb 3 (by omega) (by omega)) rfl (plain_next (n := 3)) ?_
    rintro r ⟨n1, rfl, _, _⟩
    simp -implicitDefEqProofs only [evr, id, reduceCtorEq, reduceIte, Nat.reduceMul, Nat.reduceAdd, Nat.reduceLT, Nat.reduceLeDiff, Nat.reduceEqDiff, Int.reduceLT, Int.reduceBEq, Int.reduceBNe, Nat.reduceBEq, ptr, res_one, res_ro, List.append_nil, Int.toNat_zero, Nat.sub_self, resRow, ledC, res_eqr, res_ell, cft_one, cft_0, cft_1, cft_2, cft_3, beq_self_eq_true]
    refine wcall_plain (nextC cb 3 (by omega) (by omega)) rfl (plain_next (n := 3)) ?_
    rintro r ⟨n2, rfl, _, _⟩
    simp -implicitDefEqProofs only [evr, id, reduceCtorEq, reduceIte, Nat.reduceMul, Nat.reduceAdd, Nat.reduceLT, Nat.reduceLeDiff, Nat.reduceEqDiff, Int.reduceLT, Int.reduceBEq, Int.reduceBNe, Nat.reduceBEq, ptr, res_one, res_ro, List.append_nil, Int.toNat_zero, Nat.sub_self, resRow, ledC, res_eqr, res_ell, cft_one, cft_0, cft_1, cft_2, cft_3, beq_self_eq_true]
    refine wcall_plain (nextC cb 5 (by omega) (by omega)) rfl (plain_next (n := 5)) ?_
    rintro r ⟨n3, rfl, _, _⟩
    simp -implicitDefEqProofs only [evr, id, reduceCtorEq, reduceIte, Nat.reduceMul, Nat.reduceAdd, Nat.reduceLT, Nat.reduceLeDiff, Nat.reduceEqDiff, Int.reduceLT, Int.reduceBEq, Int.reduceBNe, Nat.reduceBEq, ptr, res_one, res_ro, List.append_nil, Int.toNat_zero, Nat.sub_self, resRow, ledC, res_eqr, res_ell, cft_one, cft_0, cft_1, cft_2, cft_3, beq_self_eq_true]
    (refine hk _ ?_; clear hk k; try show Sat _ _ _ _ _)
    (repeat refine Sat.seq ?_)
    (refine Sat.region_k fun k hk => ?_; simp -implicitDefEqProofs only [evr, id, reduceCtorEq, reduceIte, Nat.reduceMul, Nat.reduceAdd, Nat.reduceLT, Nat.reduceLeDiff, Nat.reduceEqDiff, Int.reduceLT, Int.reduceBEq, Int.reduceBNe, Nat.reduceBEq, ptr, res_one, res_ro, List.append_nil, Int.toNat_zero, Nat.sub_self, resRow, ledC, res_eqr, res_ell, cft_one, cft_0, cft_1, cft_2, cft_3, beq_self_eq_true])
    refine wcall_plain (findC (Frm.codes cb) y2 (by have := hy2.size; rw [size_eq] at this; omega) hy2.asc n1 n2 n3) (by simp -implicitDefEqProofs only [evr, id, reduceCtorEq, reduceIte, Nat.reduceMul, Nat.reduceAdd, Nat.reduceLT, Nat.reduceLeDiff, Nat.reduceEqDiff, Int.reduceLT, Int.reduceBEq, Int.reduceBNe, Nat.reduceBEq, ptr, res_one, res_ro, List.append_nil, Int.toNat_zero, Nat.sub_self, resRow, ledC, res_eqr, res_ell, cft_one, cft_0, cft_1, cft_2, cft_3, beq_self_eq_true]; rfl) ok_findX ?_
    rintro r rfl
    simp -implicitDefEqProofs only [evr, id, reduceCtorEq, reduceIte, Nat.reduceMul, Nat.reduceAdd, Nat.reduceLT, Nat.reduceLeDiff, Nat.reduceEqDiff, Int.reduceLT, Int.reduceBEq, Int.reduceBNe, Nat.reduceBEq, ptr, res_one, res_ro, List.append_nil, Int.toNat_zero, Nat.sub_self, resRow, ledC, res_eqr, res_ell, cft_one, cft_0, cft_1, cft_2, cft_3, beq_self_eq_true, resAg, Res.cs]
    intro b24
    (refine hk _ ?_; clear hk k; try show Sat _ _ _ _ _)
    (repeat refine Sat.seq ?_)
    (refine Sat.region_k fun k hk => ?_; simp -implicitDefEqProofs only [evr, id, reduceCtorEq, reduceIte, Nat.reduceMul, Nat.reduceAdd, Nat.reduceLT, Nat.reduceLeDiff, Nat.reduceEqDiff, Int.reduceLT, Int.reduceBEq, Int.reduceBNe, Nat.reduceBEq, ptr, res_one, res_ro, List.append_nil, Int.toNat_zero, Nat.sub_self, resRow, ledC, res_eqr, res_ell, cft_one, cft_0, cft_1, cft_2, cft_3, beq_self_eq_true])
    refine wcall_plain (rfindC (Frm.codes cb) y2 (by have := hy2.size; rw [size_eq] at this; omega) n1 n2 n3) (by simp -implicitDefEqProofs only [evr, id, reduceCtorEq, reduceIte, Nat.reduceMul, Nat.reduceAdd, Nat.reduceLT, Nat.reduceLeDiff, Nat.reduceEqDiff, Int.reduceLT, Int.reduceBEq, Int.reduceBNe, Nat.reduceBEq, ptr, res_one, res_ro, List.append_nil, Int.toNat_zero, Nat.sub_self, resRow, ledC, res_eqr, res_ell, cft_one, cft_0, cft_1, cft_2, cft_3, beq_self_eq_true]; rfl) ok_findX ?_
    rintro r rfl
    simp -implicitDefEqProofs only [evr, id, reduceCtorEq, reduceIte, Nat.reduceMul, Nat.reduceAdd, Nat.reduceLT, Nat.reduceLeDiff, Nat.reduceEqDiff, Int.reduceLT, Int.reduceBEq, Int.reduceBNe, Nat.reduceBEq, ptr, res_one, res_ro, List.append_nil, Int.toNat_zero, Nat.sub_self, resRow, ledC, res_eqr, res_ell, cft_one, cft_0, cft_1, cft_2, cft_3, beq_self_eq_true, resAg, Res.cs]
    intro b26
    (refine hk _ ?_; clear hk k; try show Sat _ _ _ _ _)
    (repeat refine Sat.seq ?_)
    generalize (findR y2.rs n1 n2 n3).getD default = w
    generalize (findR y2.rs n1 n2 n3).isSome = ws
    refine Sat.region_k fun k hk => ?_
    simp -implicitDefEqProofs only [evr, id, reduceCtorEq, reduceIte, Nat.reduceMul, Nat.reduceAdd, Nat.reduceLT, Nat.reduceLeDiff, Nat.reduceEqDiff, Int.reduceLT, Int.reduceBEq, Int.reduceBNe, Nat.reduceBEq, ptr, res_one, res_ro, List.append_nil, Int.toNat_zero, Nat.sub_self, resRow, ledC, res_eqr, res_ell, cft_one, cft_0, cft_1, cft_2, cft_3, beq_self_eq_true, decide_true, Bool.not_true, bne_self_eq_false]
    (refine hk _ ?_; clear hk k; try show Sat _ _ _ _ _)
    refine Sat.cond_b rfl (fun h => absurd h (by decide)) (fun _ => ?_)
    refine Sat.skip ?_
    simp only [thenK, blockK]
    refine Sat.region_k fun k hk => ?_
    simp -implicitDefEqProofs only [evr, id, reduceCtorEq, reduceIte, Nat.reduceMul, Nat.reduceAdd, Nat.reduceLT, Nat.reduceLeDiff, Nat.reduceEqDiff, Int.reduceLT, Int.reduceBEq, Int.reduceBNe, Nat.reduceBEq, ptr, res_one, res_ro, List.append_nil, Int.toNat_zero, Nat.sub_self, resRow, ledC, res_eqr, res_ell, cft_one, cft_0, cft_1, cft_2, cft_3, beq_self_eq_true, e3]
    refine hk _ ?_
    simp only [thenK, blockK]
    refine ⟨i + 1, by omega, by omega, ?_⟩
    simp -implicitDefEqProofs only [evr, id, reduceCtorEq, reduceIte, Nat.reduceMul, Nat.reduceAdd, Nat.reduceLT, Nat.reduceLeDiff, Nat.reduceEqDiff, Int.reduceLT, Int.reduceBEq, Int.reduceBNe, Nat.reduceBEq, ptr, res_one, res_ro, List.append_nil, Int.toNat_zero, Nat.sub_self, resRow, ledC, res_eqr, res_ell, cft_one, cft_0, cft_1, cft_2, cft_3, beq_self_eq_true, evl]
    try (first | exact ⟨rfl, rfl⟩ | exact ⟨rfl, rfl, rfl⟩ | rfl)
  refine Sat.exit ?_
  simp only [thenK, blockK, reduceIte]
  (repeat refine Sat.seq ?_)
  (refine Sat.region_k fun k hk => ?_; simp -implicitDefEqProofs only [evr, id, reduceCtorEq, reduceIte, Nat.reduceMul, Nat.reduceAdd, Nat.reduceLT, Nat.reduceLeDiff, Nat.reduceEqDiff, Int.reduceLT, Int.reduceBEq, Int.reduceBNe, Nat.reduceBEq, ptr, res_one, res_ro, List.append_nil, Int.toNat_zero, Nat.sub_self, resRow, ledC, res_eqr, res_ell, cft_one, cft_0, cft_1, cft_2, cft_3, beq_self_eq_true])
  intro b28
  (refine hk _ ?_; clear hk k; try show Sat _ _ _ _ _)
  (repeat refine Sat.seq ?_)
  (refine Sat.region_k fun k hk => ?_; simp -implicitDefEqProofs only [evr, id, reduceCtorEq, reduceIte, Nat.reduceMul, Nat.reduceAdd, Nat.reduceLT, Nat.reduceLeDiff, Nat.reduceEqDiff, Int.reduceLT, Int.reduceBEq, Int.reduceBNe, Nat.reduceBEq, ptr, res_one, res_ro, List.append_nil, Int.toNat_zero, Nat.sub_self, resRow, ledC, res_eqr, res_ell, cft_one, cft_0, cft_1, cft_2, cft_3, beq_self_eq_true])
  refine wcall_plain (nextC cb 4 (by omega) (by omega)) rfl (plain_next (n := 4)) ?_
  rintro r ⟨n4, rfl, _, _⟩
  simp -implicitDefEqProofs only [evr, id, reduceCtorEq, reduceIte, Nat.reduceMul, Nat.reduceAdd, Nat.reduceLT, Nat.reduceLeDiff, Nat.reduceEqDiff, Int.reduceLT, Int.reduceBEq, Int.reduceBNe, Nat.reduceBEq, ptr, res_one, res_ro, List.append_nil, Int.toNat_zero, Nat.sub_self, resRow, ledC, res_eqr, res_ell, cft_one, cft_0, cft_1, cft_2, cft_3, beq_self_eq_true]
  (refine hk _ ?_; clear hk k; try show Sat _ _ _ _ _)
  have hys := hy2.size
  have hyc := hy2.cs
  have hyz : y2.rs.length + lens y2.cs = y2.led.size := (size_eq y2).symm
  have hyw := hy2.wf hwf
  refine Sat.join2 (ι := LedP) (fun o => ⟨238, [(28, .op 6 b28 0), (17, .op 5 b17 0), (11, ptr cb), (4, .i .i64 t), (6, .el ⟨blk6, 0, none⟩ 2 fun j => (ledC p).getD j default), (7, .el ⟨blk7, 0, none⟩ 17 fun j => (Res.cs u).getD j default), (8, .el ⟨blk8, 0, none⟩ 17 fun j => (Res.cs v).getD j default)], [.gone, .gone, .gone, .gone, .gone, .box b17 30 (ledC y2), .box b28 30 (ledC o)]⟩)
    (fun o => o.led.size ≤ 1000000000 ∧ o.cs.length ≤ 1000000000 ∧ ∀ r, r ∈ o.led.all → wfR r) (fun hrest => ?_) ?_
  · refine Sat.block ?_
    (repeat refine Sat.seq ?_)
    (refine Sat.region_k fun k hk => ?_; simp -implicitDefEqProofs only [evr, id, reduceCtorEq, reduceIte, Nat.reduceMul, Nat.reduceAdd, Nat.reduceLT, Nat.reduceLeDiff, Nat.reduceEqDiff, Int.reduceLT, Int.reduceBEq, Int.reduceBNe, Nat.reduceBEq, ptr, res_one, res_ro, List.append_nil, Int.toNat_zero, Nat.sub_self, resRow, ledC, res_eqr, res_ell, cft_one, cft_0, cft_1, cft_2, cft_3, beq_self_eq_true]; refine hk _ ?_; clear hk k; try show Sat _ _ _ _ _)
    refine Sat.cond_b rfl (fun _ => ?_) (fun _ => ?_)
    · (refine Sat.region_k fun k hk => ?_; simp -implicitDefEqProofs only [evr, id, reduceCtorEq, reduceIte, Nat.reduceMul, Nat.reduceAdd, Nat.reduceLT, Nat.reduceLeDiff, Nat.reduceEqDiff, Int.reduceLT, Int.reduceBEq, Int.reduceBNe, Nat.reduceBEq, ptr, res_one, res_ro, List.append_nil, Int.toNat_zero, Nat.sub_self, resRow, ledC, res_eqr, res_ell, cft_one, cft_0, cft_1, cft_2, cft_3, beq_self_eq_true])
      refine ⟨⟨by unfold maxLen; omega, by omega⟩, fun a3 c3 => ?_⟩
      refine wcall_plain (resultC cb) rfl plain_res ?_
      rintro r ⟨w, rfl, hw⟩
      simp -implicitDefEqProofs only [evr, id, reduceCtorEq, reduceIte, Nat.reduceMul, Nat.reduceAdd, Nat.reduceLT, Nat.reduceLeDiff, Nat.reduceEqDiff, Int.reduceLT, Int.reduceBEq, Int.reduceBNe, Nat.reduceBEq, ptr, res_one, res_ro, List.append_nil, Int.toNat_zero, Nat.sub_self, resRow, ledC, res_eqr, res_ell, cft_one, cft_0, cft_1, cft_2, cft_3, beq_self_eq_true, resAg, Res.cs]
      intro bq
      refine ⟨⟨by unfold maxLen; omega, by omega⟩, fun a4 c4 => ?_⟩
      (refine hk _ ?_; clear hk k; try show Sat _ _ _ _ _)
      refine Sat.le (st' := ⟨238, [(28, .op 6 b28 0), (17, .op 5 b17 0), (11, ptr cb), (4, .i .i64 t), (6, .el ⟨blk6, 0, none⟩ 2 fun j => (ledC p).getD j default), (7, .el ⟨blk7, 0, none⟩ 17 fun j => (Res.cs u).getD j default), (8, .el ⟨blk8, 0, none⟩ 17 fun j => (Res.cs v).getD j default)], [.gone, .gone, .gone, .gone, .gone, .box b17 30 (ledC y2), .box b28 30 [.os 7 a4 (y2.rs.length + 1) c4, .sl y2.a1 y2.cs.length y2.c1 4 (cftRd y2.cs)], .row a4 39 (y2.rs.length + 1) c4 17 (resRd (y2.rs ++ [w]).toArray)]⟩) ?_ (by simp -implicitDefEqProofs only [evr, id, reduceCtorEq, reduceIte, Nat.reduceMul, Nat.reduceAdd, Nat.reduceLT, Nat.reduceLeDiff, Nat.reduceEqDiff, Int.reduceLT, Int.reduceBEq, Int.reduceBNe, Nat.reduceBEq, ptr, res_one, res_ro, List.append_nil, Int.toNat_zero, Nat.sub_self, resRow, ledC, res_eqr, res_ell, cft_one, cft_0, cft_1, cft_2, cft_3, beq_self_eq_true, evl]; repeat' (first | exact res_appR y2.rs w | rfl | (refine And.intro ?_ ?_)))
      refine Sat.settleLeaf 6 0 rfl rfl rfl ?_
      simp only [List.set_cons_succ, List.set_cons_zero]
      refine Sat.le (hrest ⟨a4, c4, y2.rs ++ [w], y2.a1, y2.c1, y2.cs⟩ ⟨?_, by simp only; omega, fun r hr => ?_⟩) ?_
      · rw [size_eq]
        simp only [List.length_append, List.length_cons, List.length_nil]
        omega
      · rw [all_eq] at hr
        simp only [List.mem_append, List.mem_cons, List.not_mem_nil, or_false] at hr
        rcases hr with (hr | rfl) | hr
        · exact hyw r (by rw [all_eq]; exact List.mem_append.2 (.inl hr))
        · exact hw
        · exact hyw r (by rw [all_eq]; exact List.mem_append.2 (.inr hr))
      simp only [ledC, List.length_append, List.length_cons, List.length_nil]
      simp -implicitDefEqProofs only [evr, id, reduceCtorEq, reduceIte, Nat.reduceMul, Nat.reduceAdd, Nat.reduceLT, Nat.reduceLeDiff, Nat.reduceEqDiff, Int.reduceLT, Int.reduceBEq, Int.reduceBNe, Nat.reduceBEq, ptr, res_one, res_ro, List.append_nil, Int.toNat_zero, Nat.sub_self, resRow, ledC, res_eqr, res_ell, cft_one, cft_0, cft_1, cft_2, cft_3, beq_self_eq_true, evl]
      repeat' (first | rfl | (refine And.intro ?_ ?_))
    (repeat refine Sat.seq ?_)
    (refine Sat.region_k fun k hk => ?_; simp -implicitDefEqProofs only [evr, id, reduceCtorEq, reduceIte, Nat.reduceMul, Nat.reduceAdd, Nat.reduceLT, Nat.reduceLeDiff, Nat.reduceEqDiff, Int.reduceLT, Int.reduceBEq, Int.reduceBNe, Nat.reduceBEq, ptr, res_one, res_ro, List.append_nil, Int.toNat_zero, Nat.sub_self, resRow, ledC, res_eqr, res_ell, cft_one, cft_0, cft_1, cft_2, cft_3, beq_self_eq_true]; refine hk _ ?_; clear hk k; try show Sat _ _ _ _ _)
    refine Sat.cond_b rfl (fun _ => ?_) (fun _ => ?_)
    · (refine Sat.region_k fun k hk => ?_; simp -implicitDefEqProofs only [evr, id, reduceCtorEq, reduceIte, Nat.reduceMul, Nat.reduceAdd, Nat.reduceLT, Nat.reduceLeDiff, Nat.reduceEqDiff, Int.reduceLT, Int.reduceBEq, Int.reduceBNe, Nat.reduceBEq, ptr, res_one, res_ro, List.append_nil, Int.toNat_zero, Nat.sub_self, resRow, ledC, res_eqr, res_ell, cft_one, cft_0, cft_1, cft_2, cft_3, beq_self_eq_true])
      (refine hk _ ?_; clear hk k; try show Sat _ _ _ _ _)
      refine Sat.simBox 6 (ledC ⟨none, 0, [], y2.a1, y2.c1, y2.cs⟩) rfl ⟨sim_nil _ _ _ _, sim_refl _, trivial⟩ ?_
      simp only [List.set_cons_succ, List.set_cons_zero]
      refine Sat.le (hrest ⟨none, 0, [], y2.a1, y2.c1, y2.cs⟩ ⟨by rw [size_eq]; simp only [List.length_nil]; omega, by simp only; omega, fun r hr => ?_⟩) ?_
      · rw [all_eq] at hr
        simp only [List.nil_append] at hr
        exact hyw r (by rw [all_eq]; exact List.mem_append.2 (.inr hr))
      simp -implicitDefEqProofs only [evr, id, reduceCtorEq, reduceIte, Nat.reduceMul, Nat.reduceAdd, Nat.reduceLT, Nat.reduceLeDiff, Nat.reduceEqDiff, Int.reduceLT, Int.reduceBEq, Int.reduceBNe, Nat.reduceBEq, ptr, res_one, res_ro, List.append_nil, Int.toNat_zero, Nat.sub_self, resRow, ledC, res_eqr, res_ell, cft_one, cft_0, cft_1, cft_2, cft_3, beq_self_eq_true, evl]
      repeat' (first | rfl | (refine And.intro ?_ ?_))
    (repeat refine Sat.seq ?_)
    (refine Sat.region_k fun k hk => ?_; simp -implicitDefEqProofs only [evr, id, reduceCtorEq, reduceIte, Nat.reduceMul, Nat.reduceAdd, Nat.reduceLT, Nat.reduceLeDiff, Nat.reduceEqDiff, Int.reduceLT, Int.reduceBEq, Int.reduceBNe, Nat.reduceBEq, ptr, res_one, res_ro, List.append_nil, Int.toNat_zero, Nat.sub_self, resRow, ledC, res_eqr, res_ell, cft_one, cft_0, cft_1, cft_2, cft_3, beq_self_eq_true]; refine hk _ ?_; clear hk k; try show Sat _ _ _ _ _)
    refine Sat.cond_b rfl (fun _ => ?_) (fun _ => ?_)
    · (refine Sat.region_k fun k hk => ?_; simp -implicitDefEqProofs only [evr, id, reduceCtorEq, reduceIte, Nat.reduceMul, Nat.reduceAdd, Nat.reduceLT, Nat.reduceLeDiff, Nat.reduceEqDiff, Int.reduceLT, Int.reduceBEq, Int.reduceBNe, Nat.reduceBEq, ptr, res_one, res_ro, List.append_nil, Int.toNat_zero, Nat.sub_self, resRow, ledC, res_eqr, res_ell, cft_one, cft_0, cft_1, cft_2, cft_3, beq_self_eq_true])
      refine ⟨⟨by unfold maxLen; omega, by omega⟩, fun a3 c3 => ?_⟩
      refine wcall_slice (resultsC cb 3 (by decide)).toC rfl rfl ?_
      rintro r ⟨ra, ty, len, rc, sz, rrd, rfl, ra', rc', l3, hl3, hw3, e⟩
      simp only [resRow, Own.row.injEq] at e
      obtain ⟨rfl, rfl, rfl, rfl, rfl, rfl⟩ := e
      simp -implicitDefEqProofs only [evr, id, reduceCtorEq, reduceIte, Nat.reduceMul, Nat.reduceAdd, Nat.reduceLT, Nat.reduceLeDiff, Nat.reduceEqDiff, Int.reduceLT, Int.reduceBEq, Int.reduceBNe, Nat.reduceBEq, ptr, res_one, res_ro, List.append_nil, Int.toNat_zero, Nat.sub_self, resRow, ledC, res_eqr, res_ell, cft_one, cft_0, cft_1, cft_2, cft_3, beq_self_eq_true]
      intro bq
      refine ⟨⟨by unfold maxLen; omega, by omega⟩, fun a4 c4 => ?_⟩
      (refine hk _ ?_; clear hk k; try show Sat _ _ _ _ _)
      have ea := cft_app1 y2.cs ⟨⟨0, 0, 0, l3⟩, ra, rc⟩
      refine Sat.le (st' := ⟨238, [(28, .op 6 b28 0), (17, .op 5 b17 0), (11, ptr cb), (4, .i .i64 t), (6, .el ⟨blk6, 0, none⟩ 2 fun j => (ledC p).getD j default), (7, .el ⟨blk7, 0, none⟩ 17 fun j => (Res.cs u).getD j default), (8, .el ⟨blk8, 0, none⟩ 17 fun j => (Res.cs v).getD j default)], [.gone, .gone, .gone, .gone, .gone, .box b17 30 (ledC y2), .box b28 30 [.sl y2.a0 y2.rs.length y2.c0 17 (resRd y2.rs.toArray), .os 7 a4 (y2.cs.length + 1) c4], .row a4 59 (y2.cs.length + 1) c4 4 (cftRd (y2.cs ++ [⟨⟨0, 0, 0, l3⟩, ra, rc⟩]))]⟩) ?_ (by simp -implicitDefEqProofs only [evr, id, reduceCtorEq, reduceIte, Nat.reduceMul, Nat.reduceAdd, Nat.reduceLT, Nat.reduceLeDiff, Nat.reduceEqDiff, Int.reduceLT, Int.reduceBEq, Int.reduceBNe, Nat.reduceBEq, ptr, res_one, res_ro, List.append_nil, Int.toNat_zero, Nat.sub_self, resRow, ledC, res_eqr, res_ell, cft_one, cft_0, cft_1, cft_2, cft_3, beq_self_eq_true, evl]; repeat' (first | exact ea | rfl | (refine And.intro ?_ ?_)))
      refine Sat.settleLeaf 6 1 rfl rfl rfl ?_
      simp only [List.set_cons_succ, List.set_cons_zero]
      refine Sat.le (hrest ⟨y2.a0, y2.c0, y2.rs, a4, c4, y2.cs ++ [⟨⟨0, 0, 0, l3⟩, ra, rc⟩]⟩ ⟨?_, by simp only [List.length_append, List.length_cons, List.length_nil]; omega, fun r hr => ?_⟩) ?_
      · rw [size_eq]
        simp only [lens, List.map_append, List.map_cons, List.map_nil, List.sum_append, List.sum_cons, List.sum_nil] at hyz ⊢
        omega
      · rw [all_eq] at hr
        simp only [flatC, List.map_append, List.map_cons, List.map_nil, List.flatten_append, List.flatten_cons, List.flatten_nil, List.append_nil, List.mem_append] at hr
        rcases hr with hr | hr | hr
        · exact hyw r (by rw [all_eq]; exact List.mem_append.2 (.inl hr))
        · exact hyw r (by rw [all_eq]; exact List.mem_append.2 (.inr hr))
        · exact (hw3 r hr).2
      simp only [ledC, List.length_append, List.length_cons, List.length_nil]
      simp -implicitDefEqProofs only [evr, id, reduceCtorEq, reduceIte, Nat.reduceMul, Nat.reduceAdd, Nat.reduceLT, Nat.reduceLeDiff, Nat.reduceEqDiff, Int.reduceLT, Int.reduceBEq, Int.reduceBNe, Nat.reduceBEq, ptr, res_one, res_ro, List.append_nil, Int.toNat_zero, Nat.sub_self, resRow, ledC, res_eqr, res_ell, cft_one, cft_0, cft_1, cft_2, cft_3, beq_self_eq_true, evl]
      repeat' (first | rfl | (refine And.intro ?_ ?_))
    (repeat refine Sat.seq ?_)
    (refine Sat.region_k fun k hk => ?_; simp -implicitDefEqProofs only [evr, id, reduceCtorEq, reduceIte, Nat.reduceMul, Nat.reduceAdd, Nat.reduceLT, Nat.reduceLeDiff, Nat.reduceEqDiff, Int.reduceLT, Int.reduceBEq, Int.reduceBNe, Nat.reduceBEq, ptr, res_one, res_ro, List.append_nil, Int.toNat_zero, Nat.sub_self, resRow, ledC, res_eqr, res_ell, cft_one, cft_0, cft_1, cft_2, cft_3, beq_self_eq_true]; refine hk _ ?_; clear hk k; try show Sat _ _ _ _ _)
    refine Sat.cond_b rfl (fun _ => ?_) (fun _ => ?_)
    · (repeat refine Sat.seq ?_)
      (refine Sat.region_k fun k hk => ?_; simp -implicitDefEqProofs only [evr, id, reduceCtorEq, reduceIte, Nat.reduceMul, Nat.reduceAdd, Nat.reduceLT, Nat.reduceLeDiff, Nat.reduceEqDiff, Int.reduceLT, Int.reduceBEq, Int.reduceBNe, Nat.reduceBEq, ptr, res_one, res_ro, List.append_nil, Int.toNat_zero, Nat.sub_self, resRow, ledC, res_eqr, res_ell, cft_one, cft_0, cft_1, cft_2, cft_3, beq_self_eq_true]; refine hk _ ?_; clear hk k; try show Sat _ _ _ _ _)
      refine Sat.cond_b rfl (fun _ => ?_) (fun _ => ?_)
      · have hc0 : 0 < y2.cs.length := by rename_i h; simp only [decide_eq_true_eq] at h; omega
        (repeat refine Sat.seq ?_)
        (refine Sat.region_k fun k hk => ?_; simp -implicitDefEqProofs only [evr, id, reduceCtorEq, reduceIte, Nat.reduceMul, Nat.reduceAdd, Nat.reduceLT, Nat.reduceLeDiff, Nat.reduceEqDiff, Int.reduceLT, Int.reduceBEq, Int.reduceBNe, Nat.reduceBEq, ptr, res_one, res_ro, List.append_nil, Int.toNat_zero, Nat.sub_self, resRow, ledC, res_eqr, res_ell, cft_one, cft_0, cft_1, cft_2, cft_3, beq_self_eq_true])
        refine ⟨⟨by unfold maxLen; omega, by omega⟩, fun a3 c3 => ?_⟩
        (refine hk _ ?_; clear hk k; try show Sat _ _ _ _ _)
        (repeat refine Sat.seq ?_)
        (refine Sat.region_k fun k hk => ?_; simp -implicitDefEqProofs only [evr, id, reduceCtorEq, reduceIte, Nat.reduceMul, Nat.reduceAdd, Nat.reduceLT, Nat.reduceLeDiff, Nat.reduceEqDiff, Int.reduceLT, Int.reduceBEq, Int.reduceBNe, Nat.reduceBEq, ptr, res_one, res_ro, List.append_nil, Int.toNat_zero, Nat.sub_self, resRow, ledC, res_eqr, res_ell, cft_one, cft_0, cft_1, cft_2, cft_3, beq_self_eq_true])
        refine ⟨⟨by omega, by omega⟩, hc0, ⟨by omega, by omega⟩, hc0, ?_⟩
        (refine hk _ ?_; clear hk k; try show Sat _ _ _ _ _)
        have ea := cft_num y2.cs (IntKind.i64.wrap ((y2.cs.getD 0 default).c.number + 1)) hc0
        have el := lens_num y2.cs (IntKind.i64.wrap ((y2.cs.getD 0 default).c.number + 1))
        have ef := flat_num y2.cs (IntKind.i64.wrap ((y2.cs.getD 0 default).c.number + 1))
        have en : (numC y2.cs (IntKind.i64.wrap ((y2.cs.getD 0 default).c.number + 1))).length = y2.cs.length := numC_len _ _
        generalize numC y2.cs (IntKind.i64.wrap ((y2.cs.getD 0 default).c.number + 1)) = ns at ea el ef en
        refine Sat.le (st' := ⟨238, [(28, .op 6 b28 0), (17, .op 5 b17 0), (11, ptr cb), (4, .i .i64 t), (6, .el ⟨blk6, 0, none⟩ 2 fun j => (ledC p).getD j default), (7, .el ⟨blk7, 0, none⟩ 17 fun j => (Res.cs u).getD j default), (8, .el ⟨blk8, 0, none⟩ 17 fun j => (Res.cs v).getD j default)], [.gone, .gone, .gone, .gone, .gone, .box b17 30 (ledC y2), .box b28 30 [.sl y2.a0 y2.rs.length y2.c0 17 (resRd y2.rs.toArray), .os 7 a3 y2.cs.length c3], .row a3 59 y2.cs.length c3 4 (cftRd ns)]⟩) ?_ (by simp -implicitDefEqProofs only [evr, id, reduceCtorEq, reduceIte, Nat.reduceMul, Nat.reduceAdd, Nat.reduceLT, Nat.reduceLeDiff, Nat.reduceEqDiff, Int.reduceLT, Int.reduceBEq, Int.reduceBNe, Nat.reduceBEq, ptr, res_one, res_ro, List.append_nil, Int.toNat_zero, Nat.sub_self, resRow, ledC, res_eqr, res_ell, cft_one, cft_0, cft_1, cft_2, cft_3, beq_self_eq_true, evl]; repeat' (first | exact ea | rfl | (refine And.intro ?_ ?_)))
        refine Sat.settleLeaf 6 1 rfl rfl rfl ?_
        simp only [List.set_cons_succ, List.set_cons_zero]
        refine Sat.le (hrest ⟨y2.a0, y2.c0, y2.rs, a3, c3, ns⟩ ⟨by rw [size_eq]; simp only; omega, by simp only; omega, fun r hr => ?_⟩) ?_
        · rw [all_eq] at hr
          simp only [ef] at hr
          exact hyw r (by rw [all_eq]; exact hr)
        simp only [ledC, en]
        simp -implicitDefEqProofs only [evr, id, reduceCtorEq, reduceIte, Nat.reduceMul, Nat.reduceAdd, Nat.reduceLT, Nat.reduceLeDiff, Nat.reduceEqDiff, Int.reduceLT, Int.reduceBEq, Int.reduceBNe, Nat.reduceBEq, ptr, res_one, res_ro, List.append_nil, Int.toNat_zero, Nat.sub_self, resRow, ledC, res_eqr, res_ell, cft_one, cft_0, cft_1, cft_2, cft_3, beq_self_eq_true, evl]
        repeat' (first | rfl | (refine And.intro ?_ ?_))
      · refine Sat.skip ?_
        simp only [thenK, blockK]
        refine Sat.le (hrest y2 ⟨by omega, by omega, hyw⟩) ?_
        simp -implicitDefEqProofs only [evr, id, reduceCtorEq, reduceIte, Nat.reduceMul, Nat.reduceAdd, Nat.reduceLT, Nat.reduceLeDiff, Nat.reduceEqDiff, Int.reduceLT, Int.reduceBEq, Int.reduceBNe, Nat.reduceBEq, ptr, res_one, res_ro, List.append_nil, Int.toNat_zero, Nat.sub_self, resRow, ledC, res_eqr, res_ell, cft_one, cft_0, cft_1, cft_2, cft_3, beq_self_eq_true, evl]
        try (first | exact ⟨rfl, rfl⟩ | exact ⟨rfl, rfl, rfl⟩ | rfl)
    · refine Sat.skip ?_
      simp only [thenK, blockK]
      refine Sat.le (hrest y2 ⟨by omega, by omega, hyw⟩) ?_
      simp -implicitDefEqProofs only [evr, id, reduceCtorEq, reduceIte, Nat.reduceMul, Nat.reduceAdd, Nat.reduceLT, Nat.reduceLeDiff, Nat.reduceEqDiff, Int.reduceLT, Int.reduceBEq, Int.reduceBNe, Nat.reduceBEq, ptr, res_one, res_ro, List.append_nil, Int.toNat_zero, Nat.sub_self, resRow, ledC, res_eqr, res_ell, cft_one, cft_0, cft_1, cft_2, cft_3, beq_self_eq_true, evl]
      try (first | exact ⟨rfl, rfl⟩ | exact ⟨rfl, rfl, rfl⟩ | rfl)
  rintro o ⟨ho1, ho2, ho3⟩
  simp only [ledC, Res.cs]
  refine Sat.seq ?_
  (refine Sat.region_tree (.keep [0, 1, 3, 4] [2] (.one 2 (.one 5 (.one 6 (.one 7 (.free 8 (.free 10 (.one 9 (.one 11 (.one 12 (.one 13 (.one 14 (.one 15 (.one 16 (.one 17 (.one 18 (.one 19 (.alt 20 (.alt 21 (.one 22 (.one 23 (.one 24 (.one 25 (.one 26 (.alt 27 (.alt 28 (.one 29 (.one 30 (.one 31 (.one 32 (.one 33 .done))))) (.alt 29 (.one 28 (.one 30 (.one 31 (.one 32 (.one 33 .done))))) .none)) (.alt 29 (.one 27 (.one 28 (.one 30 (.one 31 (.one 32 (.one 33 .done)))))) .none))))))) (.alt 22 (.one 21 (.one 23 (.one 24 (.one 25 (.one 26 (.alt 27 (.alt 28 (.one 29 (.one 30 (.one 31 (.one 32 (.one 33 .done))))) (.alt 29 (.one 28 (.one 30 (.one 31 (.one 32 (.one 33 .done))))) .none)) (.alt 29 (.one 27 (.one 28 (.one 30 (.one 31 (.one 32 (.one 33 .done)))))) .none))))))) .none)) (.alt 22 (.one 20 (.one 21 (.one 23 (.one 24 (.one 25 (.one 26 (.alt 27 (.alt 28 (.one 29 (.one 30 (.one 31 (.one 32 (.one 33 .done))))) (.alt 29 (.one 28 (.one 30 (.one 31 (.one 32 (.one 33 .done))))) .none)) (.alt 29 (.one 27 (.one 28 (.one 30 (.one 31 (.one 32 (.one 33 .done)))))) .none)))))))) .none))))))))))))))))))) (by kernel_rfl) (by kernel_rfl) (fun _ _ h => h) fun k hk => ?_; simp only [WOT, List.map_cons, List.map_nil, List.getD_cons_zero, List.getD_cons_succ]; simp -implicitDefEqProofs only [evr, id, reduceCtorEq, reduceIte, Nat.reduceMul, Nat.reduceAdd, Nat.reduceLT, Nat.reduceLeDiff, Nat.reduceEqDiff, Int.reduceLT, Int.reduceBEq, Int.reduceBNe, Nat.reduceBEq, ptr, res_one, res_ro, List.append_nil, Int.toNat_zero, Nat.sub_self, resRow, ledC, res_eqr, res_ell, cft_one, cft_0, cft_1, cft_2, cft_3, beq_self_eq_true, WOT])
  refine wcall_plain (compareC (Frm.codes cb) u v) (by simp -implicitDefEqProofs only [evr, id, reduceCtorEq, reduceIte, Nat.reduceMul, Nat.reduceAdd, Nat.reduceLT, Nat.reduceLeDiff, Nat.reduceEqDiff, Int.reduceLT, Int.reduceBEq, Int.reduceBNe, Nat.reduceBEq, ptr, res_one, res_ro, List.append_nil, Int.toNat_zero, Nat.sub_self, resRow, ledC, res_eqr, res_ell, cft_one, cft_0, cft_1, cft_2, cft_3, beq_self_eq_true]; rfl) (by rintro _ rfl; exact ok_plain rfl) ?_
  rintro r rfl
  simp -implicitDefEqProofs only [evr, id, reduceCtorEq, reduceIte, Nat.reduceMul, Nat.reduceAdd, Nat.reduceLT, Nat.reduceLeDiff, Nat.reduceEqDiff, Int.reduceLT, Int.reduceBEq, Int.reduceBNe, Nat.reduceBEq, ptr, res_one, res_ro, List.append_nil, Int.toNat_zero, Nat.sub_self, resRow, ledC, res_eqr, res_ell, cft_one, cft_0, cft_1, cft_2, cft_3, beq_self_eq_true]
  refine wcall_plain (compareG (Frm.codes cb) u v hu hv) (by simp -implicitDefEqProofs only [evr, id, reduceCtorEq, reduceIte, Nat.reduceMul, Nat.reduceAdd, Nat.reduceLT, Nat.reduceLeDiff, Nat.reduceEqDiff, Int.reduceLT, Int.reduceBEq, Int.reduceBNe, Nat.reduceBEq, ptr, res_one, res_ro, List.append_nil, Int.toNat_zero, Nat.sub_self, resRow, ledC, res_eqr, res_ell, cft_one, cft_0, cft_1, cft_2, cft_3, beq_self_eq_true]; rfl) (by rintro _ rfl; exact ok_plain rfl) ?_
  rintro r rfl
  simp -implicitDefEqProofs only [evr, id, reduceCtorEq, reduceIte, Nat.reduceMul, Nat.reduceAdd, Nat.reduceLT, Nat.reduceLeDiff, Nat.reduceEqDiff, Int.reduceLT, Int.reduceBEq, Int.reduceBNe, Nat.reduceBEq, ptr, res_one, res_ro, List.append_nil, Int.toNat_zero, Nat.sub_self, resRow, ledC, res_eqr, res_ell, cft_one, cft_0, cft_1, cft_2, cft_3, beq_self_eq_true]
  refine wcall_plain (resultC cb) rfl plain_res ?_
  rintro r ⟨w1, rfl, hw1⟩
  simp -implicitDefEqProofs only [evr, id, reduceCtorEq, reduceIte, Nat.reduceMul, Nat.reduceAdd, Nat.reduceLT, Nat.reduceLeDiff, Nat.reduceEqDiff, Int.reduceLT, Int.reduceBEq, Int.reduceBNe, Nat.reduceBEq, ptr, res_one, res_ro, List.append_nil, Int.toNat_zero, Nat.sub_self, resRow, ledC, res_eqr, res_ell, cft_one, cft_0, cft_1, cft_2, cft_3, beq_self_eq_true]
  refine wcall_plain (resultC cb) rfl plain_res ?_
  rintro r ⟨w2, rfl, hw2⟩
  simp -implicitDefEqProofs only [evr, id, reduceCtorEq, reduceIte, Nat.reduceMul, Nat.reduceAdd, Nat.reduceLT, Nat.reduceLeDiff, Nat.reduceEqDiff, Int.reduceLT, Int.reduceBEq, Int.reduceBNe, Nat.reduceBEq, ptr, res_one, res_ro, List.append_nil, Int.toNat_zero, Nat.sub_self, resRow, ledC, res_eqr, res_ell, cft_one, cft_0, cft_1, cft_2, cft_3, beq_self_eq_true]
  refine wcall_plain (comparedC (Frm.codes cb) w1 w2 hw1 hw2) (by simp -implicitDefEqProofs only [evr, id, reduceCtorEq, reduceIte, Nat.reduceMul, Nat.reduceAdd, Nat.reduceLT, Nat.reduceLeDiff, Nat.reduceEqDiff, Int.reduceLT, Int.reduceBEq, Int.reduceBNe, Nat.reduceBEq, ptr, res_one, res_ro, List.append_nil, Int.toNat_zero, Nat.sub_self, resRow, ledC, res_eqr, res_ell, cft_one, cft_0, cft_1, cft_2, cft_3, beq_self_eq_true]; rfl) (by rintro _ rfl; exact ok_plain rfl) ?_
  rintro r rfl
  simp -implicitDefEqProofs only [evr, id, reduceCtorEq, reduceIte, Nat.reduceMul, Nat.reduceAdd, Nat.reduceLT, Nat.reduceLeDiff, Nat.reduceEqDiff, Int.reduceLT, Int.reduceBEq, Int.reduceBNe, Nat.reduceBEq, ptr, res_one, res_ro, List.append_nil, Int.toNat_zero, Nat.sub_self, resRow, ledC, res_eqr, res_ell, cft_one, cft_0, cft_1, cft_2, cft_3, beq_self_eq_true]
  refine wcall_plain (mcheckC (Frm.codes cb) y2 (by omega) (by omega)) (by simp -implicitDefEqProofs only [evr, id, reduceCtorEq, reduceIte, Nat.reduceMul, Nat.reduceAdd, Nat.reduceLT, Nat.reduceLeDiff, Nat.reduceEqDiff, Int.reduceLT, Int.reduceBEq, Int.reduceBNe, Nat.reduceBEq, ptr, res_one, res_ro, List.append_nil, Int.toNat_zero, Nat.sub_self, resRow, ledC, res_eqr, res_ell, cft_one, cft_0, cft_1, cft_2, cft_3, beq_self_eq_true]; rfl) (by rintro _ ⟨_, _, rfl⟩; exact ok_plain rfl) ?_
  rintro r ⟨e0, he0, rfl⟩
  obtain rfl := he0.unique (LedErr.ok hy2 (by omega) hck)
  simp -implicitDefEqProofs only [evr, id, reduceCtorEq, reduceIte, Nat.reduceMul, Nat.reduceAdd, Nat.reduceLT, Nat.reduceLeDiff, Nat.reduceEqDiff, Int.reduceLT, Int.reduceBEq, Int.reduceBNe, Nat.reduceBEq, ptr, res_one, res_ro, List.append_nil, Int.toNat_zero, Nat.sub_self, resRow, ledC, res_eqr, res_ell, cft_one, cft_0, cft_1, cft_2, cft_3, beq_self_eq_true]
  repeat' (first
    | (refine wcall_plain (mcheckC (Frm.codes cb) o ho1 ho2) (by simp -implicitDefEqProofs only [evr, id, reduceCtorEq, reduceIte, Nat.reduceMul, Nat.reduceAdd, Nat.reduceLT, Nat.reduceLeDiff, Nat.reduceEqDiff, Int.reduceLT, Int.reduceBEq, Int.reduceBNe, Nat.reduceBEq, ptr, res_one, res_ro, List.append_nil, Int.toNat_zero, Nat.sub_self, resRow, ledC, res_eqr, res_ell, cft_one, cft_0, cft_1, cft_2, cft_3, beq_self_eq_true]; rfl) (by rintro _ ⟨_, _, rfl⟩; exact ok_plain rfl) ?_; rintro r ⟨e1, he1, rfl⟩; simp -implicitDefEqProofs only [evr, id, reduceCtorEq, reduceIte, Nat.reduceMul, Nat.reduceAdd, Nat.reduceLT, Nat.reduceLeDiff, Nat.reduceEqDiff, Int.reduceLT, Int.reduceBEq, Int.reduceBNe, Nat.reduceBEq, ptr, res_one, res_ro, List.append_nil, Int.toNat_zero, Nat.sub_self, resRow, ledC, res_eqr, res_ell, cft_one, cft_0, cft_1, cft_2, cft_3, beq_self_eq_true])
    | (refine wcall_plain (rcheckC (Frm.codes cb) o ho1 ho2 ho3) (by simp -implicitDefEqProofs only [evr, id, reduceCtorEq, reduceIte, Nat.reduceMul, Nat.reduceAdd, Nat.reduceLT, Nat.reduceLeDiff, Nat.reduceEqDiff, Int.reduceLT, Int.reduceBEq, Int.reduceBNe, Nat.reduceBEq, ptr, res_one, res_ro, List.append_nil, Int.toNat_zero, Nat.sub_self, resRow, ledC, res_eqr, res_ell, cft_one, cft_0, cft_1, cft_2, cft_3, beq_self_eq_true]; rfl) (by rintro _ ⟨_, _, rfl⟩; exact ok_plain rfl) ?_; rintro r ⟨e2, he2, rfl⟩; obtain rfl := he1.unique he2; simp -implicitDefEqProofs only [evr, id, reduceCtorEq, reduceIte, Nat.reduceMul, Nat.reduceAdd, Nat.reduceLT, Nat.reduceLeDiff, Nat.reduceEqDiff, Int.reduceLT, Int.reduceBEq, Int.reduceBNe, Nat.reduceBEq, ptr, res_one, res_ro, List.append_nil, Int.toNat_zero, Nat.sub_self, resRow, ledC, res_eqr, res_ell, cft_one, cft_0, cft_1, cft_2, cft_3, beq_self_eq_true])
    | (refine wcall_plain (mcheckC (Frm.codes cb) p hp hcp) (by simp -implicitDefEqProofs only [evr, id, reduceCtorEq, reduceIte, Nat.reduceMul, Nat.reduceAdd, Nat.reduceLT, Nat.reduceLeDiff, Nat.reduceEqDiff, Int.reduceLT, Int.reduceBEq, Int.reduceBNe, Nat.reduceBEq, ptr, res_one, res_ro, List.append_nil, Int.toNat_zero, Nat.sub_self, resRow, ledC, res_eqr, res_ell, cft_one, cft_0, cft_1, cft_2, cft_3, beq_self_eq_true]; rfl) (by rintro _ ⟨_, _, rfl⟩; exact ok_plain rfl) ?_; rintro r ⟨e3, he3, rfl⟩; simp -implicitDefEqProofs only [evr, id, reduceCtorEq, reduceIte, Nat.reduceMul, Nat.reduceAdd, Nat.reduceLT, Nat.reduceLeDiff, Nat.reduceEqDiff, Int.reduceLT, Int.reduceBEq, Int.reduceBNe, Nat.reduceBEq, ptr, res_one, res_ro, List.append_nil, Int.toNat_zero, Nat.sub_self, resRow, ledC, res_eqr, res_ell, cft_one, cft_0, cft_1, cft_2, cft_3, beq_self_eq_true])
    | (refine wcall_plain (rcheckC (Frm.codes cb) p hp hcp hwp) (by simp -implicitDefEqProofs only [evr, id, reduceCtorEq, reduceIte, Nat.reduceMul, Nat.reduceAdd, Nat.reduceLT, Nat.reduceLeDiff, Nat.reduceEqDiff, Int.reduceLT, Int.reduceBEq, Int.reduceBNe, Nat.reduceBEq, ptr, res_one, res_ro, List.append_nil, Int.toNat_zero, Nat.sub_self, resRow, ledC, res_eqr, res_ell, cft_one, cft_0, cft_1, cft_2, cft_3, beq_self_eq_true]; rfl) (by rintro _ ⟨_, _, rfl⟩; exact ok_plain rfl) ?_; rintro r ⟨e4, he4, rfl⟩; obtain rfl := he3.unique he4; simp -implicitDefEqProofs only [evr, id, reduceCtorEq, reduceIte, Nat.reduceMul, Nat.reduceAdd, Nat.reduceLT, Nat.reduceLeDiff, Nat.reduceEqDiff, Int.reduceLT, Int.reduceBEq, Int.reduceBNe, Nat.reduceBEq, ptr, res_one, res_ro, List.append_nil, Int.toNat_zero, Nat.sub_self, resRow, ledC, res_eqr, res_ell, cft_one, cft_0, cft_1, cft_2, cft_3, beq_self_eq_true])
    | (refine And.intro ?_ ?_))
  all_goals (refine hk _ ?_; clear hk; simp only [thenK]; refine Sat.ret ?_; simp only [Try.results8, evr, id, reduceCtorEq, reduceIte, Nat.reduceMul, Nat.reduceAdd, Nat.reduceLT, Nat.reduceLeDiff, Nat.reduceEqDiff, Int.reduceLT, Int.reduceBEq, Int.reduceBNe, Nat.reduceBEq, ptr, res_one, res_ro, List.append_nil, Int.toNat_zero, Nat.sub_self, resRow, ledC, res_eqr, res_ell, cft_one, cft_0, cft_1, cft_2, cft_3, beq_self_eq_true])
  all_goals try rfl
end Go.Proofs.Ythhofjkbmnklmaa

/- What comes in (a parameter's value with what it reaches), as the evaluator knows it. -/
set_option linter.unusedSimpArgs false
set_option linter.unusedVariables false
namespace Go.Proofs.Ythhofjkbmnklmaa
namespace Eng
open Go.WideShapes Go.ChangeShapes

/-- fields that lie one behind the other, from off on -/
def contig (P : Program) : Nat → List Field → Option Nat
  | off, [] => some off
  | off, f :: fs => if f.offset = off then contig P (off + P.cellsOf f.type) fs else none

/-- the types that are served, to depth D -/
def serv (P : Program) : Nat → TypeId → Bool
  | 0, _ => false
  | D + 1, t =>
    match P.underlying t with
    | some .bool => P.cellsOf t == 1
    | some (.int _) => P.cellsOf t == 1
    | some .string => P.cellsOf t == 1
    | some (.slice e) => (serv P D e && P.cellsOf t == 1) && P.cellsOf e != 0
    | some (.struct fs) => fs.toList.all (fun f => serv P D f.type) && (contig P 0 fs.toList == some (P.cellsOf t))
    | _ => false

/-- what the cells of a value of a type are -/
def Sh (P : Program) : Nat → TypeId → List SV → Prop
  | 0, _, _ => False
  | D + 1, t, l =>
    match P.underlying t with
    | some .bool => ∃ b, l = [.b b]
    | some (.int k) => ∃ n, l = [.i k n] ∧ (Lit.int k n).wf = true
    | some .string => ∃ s, l = [.v (.string s)] ∧ s.size ≤ maxLen
    | some (.slice e) => ∃ a len cap rd, l = [.sl a len cap (P.cellsOf e) rd] ∧ ∀ i, i < len → Sh P D e ((List.range (P.cellsOf e)).map (rd i))
    | some (.struct fs) => l.length = P.cellsOf t ∧ ∀ f ∈ fs.toList, Sh P D f.type ((l.drop f.offset).take (P.cellsOf f.type))
    | _ => False

/-- cells that came in -/
def Came (w : World) (l : List SV) : Prop := ∀ s ∈ l, s.ok (fun b => b < w.heap.size) w ∧ s.den.oneCell' = true

variable {H : Type} {enc : TypeId × Value → H} {P : Program} {w : World} {spare : Nat → Bool} {held : Bool}

theorem map_range_getD (l : List SV) : (List.range l.length).map (fun j => l.getD j default) = l := by
  apply List.ext_getElem?
  intro i
  by_cases h : i < l.length
  · simp [h, List.getD]
  · simp [h]

theorem came_nil (w : World) : Came w [] := fun s hs => by cases hs
theorem came_one {w : World} {s : SV} (h : s.ok (fun b => b < w.heap.size) w) (h1 : s.den.oneCell' = true) : Came w [s] := fun s' hs => by obtain rfl := List.mem_singleton.1 hs; exact ⟨h, h1⟩

theorem open_fields {D n : Nat} {cs : List Value} (ih : ∀ t, serv P D t = true → ∀ fuel cs x, DataW.trod enc P w 0 spare held fuel t cs = some x → ∃ l : List SV, l.map SV.den = cs ∧ Came w l ∧ Sh P D t l ∧ l.length = P.cellsOf t) :
    ∀ (fs : List Field) (off e : Nat), fs.all (fun f => serv P D f.type) = true → contig P off fs = some e → e = cs.length → (∀ f ∈ fs, ∃ x, DataW.trod enc P w 0 spare held n f.type ((cs.drop f.offset).take (P.cellsOf f.type)) = some x) →
      ∃ l : List SV, l.map SV.den = cs.drop off ∧ Came w l ∧ (∀ f ∈ fs, off ≤ f.offset ∧ Sh P D f.type ((l.drop (f.offset - off)).take (P.cellsOf f.type)))
  | [], off, e, _, hc, he, _ => by
    simp only [contig, Option.some.injEq] at hc
    exact ⟨[], by simp; omega, came_nil w, (fun f hf => by cases hf)⟩
  | f :: fs, off, e, hs, hc, he, h => by
    simp only [contig] at hc
    split at hc
    · rename_i ho
      simp only [List.all_cons, Bool.and_eq_true] at hs
      obtain ⟨x, hx⟩ := h f (by simp)
      obtain ⟨l1, h1, h2, h3, h4⟩ := ih f.type hs.1 n _ x hx
      obtain ⟨l2, g1, g2, g3⟩ := open_fields ih fs (off + P.cellsOf f.type) e hs.2 hc he (fun g hg => h g (by simp [hg]))
      refine ⟨l1 ++ l2, ?_, ?_, ?_⟩
      · rw [List.map_append, h1, g1, ho, ← List.drop_drop]
        exact List.take_append_drop _ _
      · intro s hs
        rcases List.mem_append.1 hs with hs | hs
        · exact h2 s hs
        · exact g2 s hs
      · intro g hg
        rcases List.mem_cons.1 hg with rfl | hg
        · refine ⟨by omega, ?_⟩
          rw [ho, Nat.sub_self, List.drop_zero, List.take_append_of_le_length (by omega), List.take_of_length_le (by omega)]
          exact h3
        · obtain ⟨k1, k2⟩ := g3 g hg
          refine ⟨by omega, ?_⟩
          rw [List.drop_append, List.drop_eq_nil_of_le (by omega), List.nil_append, show g.offset - off - l1.length = g.offset - (off + P.cellsOf f.type) by omega]
          exact k2
    · cases hc

theorem open_sh : ∀ (D : Nat) (t : TypeId), serv P D t = true → ∀ (fuel : Nat) (cs : List Value) (x : DataW H × List MemPlace), DataW.trod enc P w 0 spare held fuel t cs = some x →
    ∃ l : List SV, l.map SV.den = cs ∧ Came w l ∧ Sh P D t l ∧ l.length = P.cellsOf t
  | 0, _, h, _, _, _, _ => by simp [serv] at h
  | D + 1, t, hs, fuel, cs, x, h => by
    unfold serv at hs
    unfold Sh
    cases hu : P.underlying t with
    | none => simp [hu] at hs
    | some kd =>
      cases kd
      case bool =>
        obtain ⟨b, rfl, rfl⟩ := DataW.trod_bool hu h
        exact ⟨[.b b], rfl, came_one trivial rfl, ⟨b, rfl⟩, by simp only [hu, beq_iff_eq] at hs; rw [hs]; rfl⟩
      case int k =>
        obtain ⟨m, rfl, rfl, hw⟩ := DataW.trod_int hu h
        exact ⟨[.i k m], rfl, came_one trivial rfl, ⟨m, rfl, hw⟩, by simp only [hu, beq_iff_eq] at hs; rw [hs]; rfl⟩
      case string =>
        obtain ⟨s, rfl, rfl, hw⟩ := DataW.trod_string hu h
        exact ⟨[.v (.string s)], rfl, came_one trivial rfl, ⟨s, rfl, hw⟩, by simp only [hu, beq_iff_eq] at hs; rw [hs]; rfl⟩
      case slice e =>
        simp only [hu, Bool.and_eq_true, beq_iff_eq, bne_iff_ne] at hs
        obtain ⟨hs, hz⟩ := hs
        rcases DataW.trod_slice hu h with ⟨rfl, rfl⟩ | ⟨a, len, cap, elems, rest, n, rfl, rfl, rfl, hb, hl, hm, hlen, hel, _, _⟩
        · exact ⟨[.sl none 0 0 (P.cellsOf e) default], rfl, came_one ⟨Nat.le_refl _, Nat.zero_le _, .inl rfl⟩ rfl, ⟨none, 0, 0, default, rfl, fun i hi => by omega⟩, by rw [hs.2]; rfl⟩
        · have each : ∀ i, i < len → ∃ l : List SV, (∃ cs, w.cells? 0 (a.add (i * P.cellsOf e)) (P.cellsOf e) = some cs ∧ l.map SV.den = cs) ∧ Came w l ∧ Sh P D e l ∧ l.length = P.cellsOf e := fun i hi => by
            have h1 := hel i hi
            obtain ⟨y, hy⟩ : ∃ y, elems[i]? = some y := ⟨elems[i]'(by omega), by simp⟩
            rw [hy, Option.bind_eq_some_iff] at h1
            obtain ⟨cs, h2, h3⟩ := h1
            obtain ⟨l, g1, g2, g3, g4⟩ := open_sh D e hs.1 n cs y h3
            exact ⟨l, ⟨cs, h2, g1⟩, g2, g3, g4⟩
          have pick : ∀ i, ∃ l : List SV, i < len → (∃ cs, w.cells? 0 (a.add (i * P.cellsOf e)) (P.cellsOf e) = some cs ∧ l.map SV.den = cs) ∧ Came w l ∧ Sh P D e l ∧ l.length = P.cellsOf e := fun i => by
            by_cases hi : i < len
            · obtain ⟨l, h⟩ := each i hi; exact ⟨l, fun _ => h⟩
            · exact ⟨[], fun h => absurd h hi⟩
          obtain ⟨rd, hrd⟩ := Classical.axiomOfChoice pick
          refine ⟨[.sl (some a) len cap (P.cellsOf e) fun i j => (rd i).getD j default], rfl, came_one ⟨hl, hm, ?_⟩ rfl, ⟨some a, len, cap, _, rfl, fun i hi => ?_⟩, by rw [hs.2]; rfl⟩
          · by_cases h0 : len = 0
            · exact .inl h0
            · · obtain ⟨blk, off, spot⟩ := a
                have cell : ∀ i j, i < len → j < P.cellsOf e → ∃ s, (rd i)[j]? = some s ∧ w.cell? ((Addr.mk blk off spot).add (i * P.cellsOf e + j)) = some s.den ∧ s.den.oneCell' = true ∧ s.ok (fun b => b < w.heap.size) w := fun i j hi hj => by
                  obtain ⟨⟨cs, h1, h2⟩, h3, h4, h5⟩ := hrd i hi
                  obtain ⟨_, k1, k2⟩ := World.cells?_some h1
                  have hj' : j < (rd i).length := by omega
                  refine ⟨(rd i)[j], by simp, ?_, (h3 _ (List.getElem_mem hj')).2, (h3 _ (List.getElem_mem hj')).1⟩
                  have h6 := k2 j hj
                  rw [← h2] at h6
                  rw [show (Addr.mk blk off spot).add (i * P.cellsOf e + j) = ((Addr.mk blk off spot).add (i * P.cellsOf e)).add j by rw [Addr.add_add], h6]
                  simp [hj']
                obtain ⟨s0, _, hc0, _⟩ := cell 0 0 (by omega) (by omega)
                have hspot : spot = none := by simpa [Addr.add] using World.cell?_spot hc0
                subst hspot
                refine .inr ⟨blk, off, rfl, by simpa [Addr.add] using World.block_lt_of_cell? w _ hc0, fun i j hi hj => ?_⟩
                obtain ⟨s, h1, h2, h3, h4⟩ := cell i j hi hj
                rw [Addr.add_lit, ← Nat.add_assoc] at h2
                have : (rd i).getD j default = s := by simp [List.getD, h1]
                show _ = some ((rd i).getD j default).den ∧ ((rd i).getD j default).den.oneCell' = true ∧ _
                simp only [this]
                exact ⟨h2, h3, h4⟩
          · have h5 := (hrd i hi).2.2.2
            rw [← h5, map_range_getD]
            exact (hrd i hi).2.2.1
      case struct fs =>
        simp only [hu, Bool.and_eq_true, beq_iff_eq] at hs
        obtain ⟨xs, n, rfl, rfl, hl, hlen, hf⟩ := DataW.trod_struct hu h
        obtain ⟨l, h1, h2, h3⟩ := open_fields (n := n) (cs := cs) (fun t ht fuel cs x hx => open_sh D t ht fuel cs x hx) fs.toList 0 _ hs.1 hs.2 hl.symm (fun f hf' => by
          obtain ⟨i, hi, rfl⟩ := List.getElem_of_mem hf'
          have hi' : i < xs.length := by rw [hlen]; simpa using hi
          exact ⟨xs[i], by rw [hf i _ (by simp)]; simp⟩)
        have hll : l.length = P.cellsOf t := by rw [← hl, ← List.length_map (f := SV.den), h1]; simp
        exact ⟨l, by simpa using h1, h2, ⟨hll, fun f hf => by simpa using (h3 f hf).2⟩, hll⟩
      all_goals (simp [hu] at hs)
/-- the value of a type that has these cells -/
def valS (P : Program) (t : TypeId) (l : List SV) : SV := match P.underlying t with | some (.struct _) => .agg l.length (fun j => l.getD j default) | _ => l.headD default

theorem open_val2 {D : Nat} {t : TypeId} {v : Value} {d : DataW H} {ps : List MemPlace} {base : Nat} (hs : serv P D t = true) (hv : Value.okWide P w .any base t v) (h : DataW.Trod enc P w 0 spare held t v d ps) :
    ∃ l, v = (valS P t l).den ∧ Came w l ∧ Sh P D t l ∧ (∀ s, valS P t l = s → s.ok (fun b => b < w.heap.size) w) ∧ l.map SV.den = v.cells.toList := by
  obtain ⟨fuel, h⟩ := h
  obtain ⟨l, h1, h2, h3, h4⟩ := open_sh D t hs fuel _ _ h
  refine ⟨l, ?_, h2, h3, ?_, h1⟩
  · unfold valS
    cases D with
    | zero => simp [serv] at hs
    | succ D =>
    unfold serv at hs
    have one : v.cells.toList = [v] → (match P.underlying t with | some (.struct _) => False | _ => True) → v = (match P.underlying t with | some (.struct _) => SV.agg l.length (fun j => l.getD j default) | _ => l.headD default).den := fun hc hn => by
      rw [hc] at h1
      obtain ⟨s, rfl⟩ : ∃ s, l = [s] := by
        match l, h1 with
        | [s], _ => exact ⟨s, rfl⟩
      simp only [List.map_cons, List.map_nil, List.cons.injEq, and_true] at h1
      split
      · rename_i hu; rw [hu] at hn; exact hn.elim
      · exact h1.symm
    cases hu : P.underlying t with
    | none => simp [hu] at hs
    | some kd =>
      rw [hu] at one
      cases kd
      case bool => obtain ⟨b, rfl⟩ := okWide_bool hu hv; exact one rfl trivial
      case int k => obtain ⟨b, rfl⟩ := okWide_int hu hv; exact one rfl trivial
      case string => obtain ⟨b, rfl⟩ := okWide_string hu hv; exact one rfl trivial
      case slice e => obtain ⟨a, b, c, rfl⟩ := okWide_slice hu hv; exact one rfl trivial
      case struct fs =>
        obtain ⟨cs, rfl, _⟩ := okWide_struct hu hv
        simp only [Value.cells] at h1
        simp only [SV.den]
        congr 1
        apply Array.toList_inj.1
        rw [← h1, List.toList_toArray]
        conv => lhs; rw [← map_range_getD l]
        rw [List.map_map]
        rfl
      all_goals (simp [hu] at hs)
  · rintro s rfl
    unfold valS
    split
    · intro j hj
      have : l.getD j default = l[j] := by simp [List.getD, hj]
      show SV.ok _ _ (l.getD j default)
      rw [this]
      exact (h2 _ (List.getElem_mem hj)).1
    · cases l with
      | nil => trivial
      | cons s l => exact (h2 s (by simp)).1
theorem open_val {D : Nat} {t : TypeId} {v : Value} {d : DataW H} {ps : List MemPlace} {base : Nat} (hs : serv P D t = true) (hv : Value.okWide P w .any base t v) (h : DataW.Trod enc P w 0 spare held t v d ps) :
    ∃ l, v = (valS P t l).den ∧ Came w l ∧ Sh P D t l ∧ (∀ s, valS P t l = s → s.ok (fun b => b < w.heap.size) w) := by
  obtain ⟨l, h1, h2, h3, h4, _⟩ := open_val2 hs hv h
  exact ⟨l, h1, h2, h3, h4⟩
/-! ### What a shape says -/
theorem sh_int {D : Nat} {t : TypeId} {k : IntKind} {l : List SV} (hu : P.underlying t = some (.int k)) (h : Sh P (D + 1) t l) : ∃ n, l = [.i k n] ∧ (Lit.int k n).wf = true := by
  unfold Sh at h; rw [hu] at h; exact h
theorem sh_bool {D : Nat} {t : TypeId} {l : List SV} (hu : P.underlying t = some .bool) (h : Sh P (D + 1) t l) : ∃ b, l = [.b b] := by
  unfold Sh at h; rw [hu] at h; exact h
theorem sh_string {D : Nat} {t : TypeId} {l : List SV} (hu : P.underlying t = some .string) (h : Sh P (D + 1) t l) : ∃ s, l = [.v (.string s)] ∧ s.size ≤ maxLen := by
  unfold Sh at h; rw [hu] at h; exact h
theorem sh_struct {D : Nat} {t : TypeId} {fs : Array Field} {l : List SV} (hu : P.underlying t = some (.struct fs)) (h : Sh P (D + 1) t l) : l.length = P.cellsOf t ∧ ∀ f ∈ fs.toList, Sh P D f.type ((l.drop f.offset).take (P.cellsOf f.type)) := by
  unfold Sh at h; rw [hu] at h; exact h
/-- a slice: a list of what its elements are -/
theorem sh_slice {A : Type} [Inhabited A] (cs : A → List SV) (Q : A → Prop) {D sz : Nat} {t e : TypeId} {l : List SV} (hu : P.underlying t = some (.slice e)) (hc : P.cellsOf e = sz) (hel : ∀ l, Sh P D e l → ∃ x : A, l = cs x ∧ Q x) (h : Sh P (D + 1) t l) :
    ∃ (a : Option Addr) (cap : Nat) (xs : List A) (rd : Nat → Nat → SV), l = [.sl a xs.length cap sz rd] ∧ (∀ x ∈ xs, Q x) ∧ rdEq xs.length sz rd (fun i j => (cs (xs.getD i default)).getD j default) := by
  unfold Sh at h
  rw [hu] at h
  obtain ⟨a, len, cap, rd, rfl, h⟩ := h
  rw [hc] at h
  have pick : ∀ i, ∃ x : A, i < len → (List.range sz).map (rd i) = cs x ∧ Q x := fun i => by
    by_cases hi : i < len
    · rw [← hc] at h ⊢
      obtain ⟨x, h1, h2⟩ := hel _ (h i hi)
      exact ⟨x, fun _ => ⟨h1, h2⟩⟩
    · exact ⟨default, fun h => absurd h hi⟩
  obtain ⟨f, hf⟩ := Classical.axiomOfChoice pick
  refine ⟨a, cap, (List.range len).map f, rd, by simp [hc], fun x hx => ?_, fun i j hi hj => ?_⟩
  · obtain ⟨i, hi, rfl⟩ := List.mem_map.1 hx
    exact (hf i (List.mem_range.1 hi)).2
  · have hi' : i < len := by simpa using hi
    have : ((List.range len).map f).getD i default = f i := by simp [List.getD, hi']
    show rd i j = (cs (((List.range len).map f).getD i default)).getD j default
    rw [this, ← (hf i hi').1]
    simp [List.getD, hj]
theorem sh_ints {D : Nat} {t e : TypeId} {k : IntKind} {l : List SV} (hu : P.underlying t = some (.slice e)) (he : P.underlying e = some (.int k)) (hc : P.cellsOf e = 1) (h : Sh P (D + 2) t l) :
    ∃ (a : Option Addr) (cap : Nat) (z : List Int) (rd : Nat → Nat → SV), l = [.sl a z.length cap 1 rd] ∧ (∀ n ∈ z, (Lit.int k n).wf = true) ∧ rdEq z.length 1 rd (fun i _ => .i k (z.getD i 0)) := by
  obtain ⟨a, cap, xs, rd, h1, h2, h3⟩ := sh_slice (fun n : Int => [SV.i k n]) (fun n => (Lit.int k n).wf = true) hu hc (fun l h => sh_int he h) h
  refine ⟨a, cap, xs, rd, h1, h2, fun i j hi hj => ?_⟩
  obtain rfl : j = 0 := by omega
  rw [h3 i 0 hi hj]
  rfl
theorem valS_one {t : TypeId} {s : SV} (h : (match P.underlying t with | some (.struct _) => false | _ => true) = true) : valS P t [s] = s := by
  unfold valS
  split
  · rename_i hu; rw [hu] at h; cases h
  · rfl
end Eng
end Go.Proofs.Ythhofjkbmnklmaa

/- What the bound of an upto statement gives: a value's slices, all together, are no longer than its bulk. -/
set_option linter.unusedSimpArgs false
set_option linter.unusedVariables false
namespace Go.Proofs.Ythhofjkbmnklmaa
namespace Eng
open Go.WideShapes Go.ChangeShapes

/-- how many elements its slices have -/
def SV.wt : SV → Nat
  | .sl _ len _ sz rd => ((List.range len).map fun i => 1 + ((List.range sz).map fun j => SV.wt (rd i j)).sum).sum
  | _ => 0
variable {H : Type} {enc : TypeId × Value → H} {P : Program} {w : World} {spare : Nat → Bool} {held : Bool}

theorem bulk_one (d : DataW H) : 1 ≤ Rows.uptoBulk d := by
  cases d with
  | lit l => cases l <;> simp [Rows.uptoBulk]
  | nil => simp [Rows.uptoBulk]
  | ptr d => simp [Rows.uptoBulk]
  | slice elems spare => simp [Rows.uptoBulk]
  | agg parts => simp [Rows.uptoBulk]
  | iface t d => simp [Rows.uptoBulk]
  | map entries => simp [Rows.uptoBulk]
  | held h => simp [Rows.uptoBulk]
theorem bulk_sum : ∀ (ys : List (DataW H)) (g : Nat → Nat), (∀ i, (h : i < ys.length) → g i ≤ Rows.uptoBulk ys[i]) → ((List.range ys.length).map g).sum ≤ Rows.uptoBulkAll ys
  | [], g, _ => by simp [Rows.uptoBulkAll]
  | y :: ys, g, h => by
    have ih := bulk_sum ys (fun i => g (i + 1)) fun i hi => h (i + 1) (by simp only [List.length_cons]; omega)
    have h0 := h 0 (by simp)
    simp only [List.length_cons, List.range_succ_eq_map, List.map_cons, List.map_map, List.sum_cons, Rows.uptoBulkAll]
    simp only [List.getElem_cons_zero] at h0
    have e : (g ∘ Nat.succ) = fun i => g (i + 1) := rfl
    rw [e]
    omega

theorem bulk_fields {D n : Nat} {cs : List Value} {l : List SV} (hden : l.map SV.den = cs) (hc : Came w l)
    (ih : ∀ t, serv P D t = true → ∀ fuel cs x l, DataW.trod enc P w 0 spare held fuel t cs = some x → l.map SV.den = cs → Came w l → Sh P D t l → (l.map SV.wt).sum + 1 ≤ Rows.uptoBulk x.1) :
    ∀ (fs : List Field) (xs : List (DataW H × List MemPlace)) (off e : Nat), fs.all (fun f => serv P D f.type) = true → contig P off fs = some e → e = l.length → fs.length = xs.length →
      (∀ (i : Nat) (f : Field), fs[i]? = some f → DataW.trod enc P w 0 spare held n f.type ((cs.drop f.offset).take (P.cellsOf f.type)) = xs[i]?) →
      (∀ f ∈ fs, Sh P D f.type ((l.drop f.offset).take (P.cellsOf f.type))) → ((l.drop off).map SV.wt).sum ≤ Rows.uptoBulkAll (xs.map (·.1))
  | [], xs, off, e, _, hcg, he, _, _, _ => by
    simp only [contig, Option.some.injEq] at hcg
    rw [List.drop_eq_nil_of_le (by omega)]
    simp
  | f :: fs, [], off, e, _, _, _, hl, _, _ => by simp at hl
  | f :: fs, y :: xs, off, e, hs, hcg, he, hl, hx, hsh => by
    simp only [contig] at hcg
    split at hcg
    · rename_i ho
      simp only [List.all_cons, Bool.and_eq_true] at hs
      have h0 := hx 0 f rfl
      simp only [List.getElem?_cons_zero] at h0
      have h1 := ih f.type hs.1 n _ y ((l.drop f.offset).take (P.cellsOf f.type)) h0 (by rw [List.map_take, List.map_drop, hden]) (fun s hs => hc s (List.mem_of_mem_drop (List.mem_of_mem_take hs))) (hsh f (by simp))
      have h2 := bulk_fields hden hc ih fs xs (off + P.cellsOf f.type) e hs.2 hcg he (by simpa using hl) (fun i g hg => by
        have := hx (i + 1) g (by simpa using hg)
        simpa using this) (fun g hg => hsh g (by simp [hg]))
      simp only [List.map_cons, Rows.uptoBulkAll]
      rw [← List.take_append_drop (P.cellsOf f.type) (l.drop off), List.map_append, List.sum_append, List.drop_drop]
      rw [ho] at h1
      omega
    · cases hcg

theorem bulk_sh : ∀ (D : Nat) (t : TypeId), serv P D t = true → ∀ (fuel : Nat) (cs : List Value) (x : DataW H × List MemPlace) (l : List SV), DataW.trod enc P w 0 spare held fuel t cs = some x → l.map SV.den = cs → Came w l → Sh P D t l →
    (l.map SV.wt).sum + 1 ≤ Rows.uptoBulk x.1
  | 0, _, h, _, _, _, _, _, _, _, _ => by simp [serv] at h
  | D + 1, t, hs, fuel, cs, x, l, h, hden, hc, hsh => by
    unfold serv at hs
    unfold Sh at hsh
    have h1 := bulk_one x.1
    cases hu : P.underlying t with
    | none => simp [hu] at hs
    | some kd =>
      rw [hu] at hsh
      cases kd
      case bool => obtain ⟨b, rfl⟩ := hsh; simpa [SV.wt] using h1
      case int k => obtain ⟨m, rfl, _⟩ := hsh; simpa [SV.wt] using h1
      case string => obtain ⟨s, rfl, _⟩ := hsh; simpa [SV.wt] using h1
      case slice e =>
        simp only [hu, Bool.and_eq_true, beq_iff_eq, bne_iff_ne] at hs
        obtain ⟨hs, hz⟩ := hs
        obtain ⟨a', len', cap', rd, rfl, hel'⟩ := hsh
        rcases DataW.trod_slice hu h with ⟨rfl, rfl⟩ | ⟨a, len, cap, elems, rest, n, rfl, rfl, rfl, hb, hl, hm, hlen, hel, _, _⟩
        · simp only [List.map_cons, List.map_nil, SV.den, List.cons.injEq, Value.slice.injEq, and_true] at hden
          obtain ⟨rfl, rfl, rfl⟩ := hden
          simpa [SV.wt] using h1
        · simp only [List.map_cons, List.map_nil, SV.den, List.cons.injEq, Value.slice.injEq, and_true] at hden
          obtain ⟨rfl, rfl, rfl⟩ := hden
          simp only [List.map_cons, List.map_nil, List.sum_cons, List.sum_nil, SV.wt, Rows.uptoBulk, Nat.add_zero]
          obtain ⟨_, _, hrd⟩ := (hc (.sl (some a) len' cap' (P.cellsOf e) rd) (by simp)).1
          rcases hrd with h0 | ⟨blk, off, ha, hR, hcell⟩
          · subst h0; simp
          · obtain rfl := Option.some.inj ha
            have key : ∀ i, i < len' → ∀ hi : i < elems.length, 1 + ((List.range (P.cellsOf e)).map fun j => SV.wt (rd i j)).sum ≤ Rows.uptoBulk elems[i].1 := fun i hi hi2 => by
              have g1 := hel i hi
              rw [List.getElem?_eq_getElem hi2, Option.bind_eq_some_iff] at g1
              obtain ⟨cs, g2, g3⟩ := g1
              obtain ⟨_, k1, k2⟩ := World.cells?_some g2
              have hd : ((List.range (P.cellsOf e)).map (rd i)).map SV.den = cs := by
                apply List.ext_getElem?
                intro j
                by_cases hj : j < P.cellsOf e
                · have g4 := k2 j hj
                  have g5 := (hcell i j hi hj).1
                  rw [← g4]
                  simp only [List.getElem?_map, List.getElem?_range hj, Option.map_some]
                  rw [← g5]
                  congr 1
                  rw [Addr.add_add, Addr.add_lit, Nat.add_assoc]
                · rw [List.getElem?_eq_none (by simp; omega), List.getElem?_eq_none (by omega)]
              have g6 := bulk_sh D e hs.1 n cs _ ((List.range (P.cellsOf e)).map (rd i)) g3 hd (fun s hs' => by
                obtain ⟨j, hj, rfl⟩ := List.mem_map.1 hs'
                have := hcell i j hi (List.mem_range.1 hj)
                exact ⟨this.2.2, this.2.1⟩) (hel' i hi)
              rw [List.map_map] at g6
              have e9 : (SV.wt ∘ rd i) = fun j => SV.wt (rd i j) := rfl
              rw [e9] at g6
              omega
            have := bulk_sum (elems.map (·.1)) (fun i => 1 + ((List.range (P.cellsOf e)).map fun j => SV.wt (rd i j)).sum) (fun i hi => by
              have hi2 : i < elems.length := by simpa using hi
              have := key i (by omega) hi2
              simpa using this)
            rw [List.length_map, hlen] at this
            omega
      case struct fs =>
        simp only [hu, Bool.and_eq_true, beq_iff_eq] at hs
        obtain ⟨xs, n, rfl, rfl, hl, hlen, hf⟩ := DataW.trod_struct hu h
        obtain ⟨g1, g2⟩ := hsh
        have := bulk_fields (n := n) hden hc (fun t ht fuel cs x l hx hd hcl hs' => bulk_sh D t ht fuel cs x l hx hd hcl hs') fs.toList xs 0 _ hs.1 hs.2 g1.symm (by simpa using hlen.symm) (fun i f hif => hf i f (by simpa using hif)) g2
        simp only [List.drop_zero] at this
        simp only [Rows.uptoBulk]
        omega
      all_goals (simp [hu] at hs)
theorem bulk_val {D : Nat} {t : TypeId} {v : Value} {d : DataW H} {ps : List MemPlace} {l : List SV} (hs : serv P D t = true) (h : DataW.Trod enc P w 0 spare held t v d ps) (hd : l.map SV.den = v.cells.toList) (hc : Came w l) (hsh : Sh P D t l) : (l.map SV.wt).sum + 1 ≤ Rows.uptoBulk d := by
  obtain ⟨fuel, h⟩ := h
  exact bulk_sh D t hs fuel _ _ l h hd hc hsh
theorem bulk_part {d : DataW H} {ds : List (DataW H)} (h : d ∈ ds) : Rows.uptoBulk d ≤ Rows.uptoBulkAll ds := by
  induction ds with
  | nil => cases h
  | cons x r ih =>
    simp only [Rows.uptoBulkAll]
    cases List.mem_cons.1 h with
    | inl e => subst e; omega
    | inr e => have := ih e; omega
end Eng
end Go.Proofs.Ythhofjkbmnklmaa

/- The frame of the proof of 'Rows.MergeExactUptoSaid': from the walk of the Go function to the given statement. Written by a program (wip/shell3.py). -/
namespace Go.Proofs.Ythhofjkbmnklmaa.mergeExact
open Go.ChangeShapes Go.WideShapes Go.ChangeAt Go.RowKit Go.Proofs.Ythhofjkbmnklmaa.Eng
open Go.ChangeMaps (open_string shut_string)
set_option linter.unusedVariables false

theorem own : ownKnob Try.prog.godebug = none := by kernel_rfl
theorem laidOut : laidOutB Try.prog = true := by kernel_rfl

/-- the walk: whatever the input, the call returns true, and what was there is as it was -/
def Walk : Prop := ∀ (w : World) (l0 : List SV) (l1 : List SV) (l2 : List SV) (l3 : List SV) (l4 : List SV), Came w l0 → Sh Try.prog 8 22 l0 → (valS Try.prog 22 l0).ok (fun b => b < w.heap.size) w → Came w l1 → Sh Try.prog 8 30 l1 → (valS Try.prog 30 l1).ok (fun b => b < w.heap.size) w → Came w l2 → Sh Try.prog 8 39 l2 → (valS Try.prog 39 l2).ok (fun b => b < w.heap.size) w → Came w l3 → Sh Try.prog 8 39 l3 → (valS Try.prog 39 l3).ok (fun b => b < w.heap.size) w → Came w l4 → Sh Try.prog 8 3 l4 → (valS Try.prog 3 l4).ok (fun b => b < w.heap.size) w → (l0.map SV.wt).sum ≤ 1048576 → (l1.map SV.wt).sum ≤ 1048576 → (l2.map SV.wt).sum ≤ 1048576 → (l3.map SV.wt).sum ≤ 1048576 → (l4.map SV.wt).sum ≤ 1048576 →
    Calls Try.prog 8 #[(valS Try.prog 22 l0).den, (valS Try.prog 30 l1).den, (valS Try.prog 39 l2).den, (valS Try.prog 39 l3).den, (valS Try.prog 3 l4).den] w fun e w' => e = .returned (.bool true) ∧ Below w.heap.size w w'

set_option maxRecDepth 100000 in
theorem lifted (walk : Walk) (os : Os) (started : os.Started) (H : Type) (enc : TypeId × Value → H) (F : Stop.Interp) :
    ReturnsInHanded {} Try.checked os 8 .any ((Rows.OpenSpec.upto Rows.mergeExactSpec).pre6 enc Try.prog Try.f8 Rows.mergeExactUptoRow.domain false) (((Rows.OpenSpec.upto Rows.mergeExactSpec).at F).post enc Try.prog Try.f8 false true false false) := by
  refine returnsInHanded_of_cond (C := Try.checked) (s := Rows.OpenSpec.upto Rows.mergeExactSpec) (k := Rows.uptoSmall) rfl own started (by kernel_rfl) Try.func8
    (OpenSpec.witness (enc := enc) (C := Try.checked) (s := Rows.OpenSpec.upto Rows.mergeExactSpec) (k := Rows.uptoSmall) rfl false ⟨#[], #[.slice none 0 0, .agg #[.slice none 0 0, .slice none 0 0], .agg #[.int .i64 0, .int .i64 0, .int .i64 0, .int .i64 0, .int .u32 0, .int .i64 0, .int .i64 0, .int .i64 0, .bool false, .bool false, .int .i64 0, .int .u32 0, .int .i64 0, .int .i64 0, .int .i64 0, .int .i64 0, .int .i64 0], .agg #[.int .i64 0, .int .i64 0, .int .i64 0, .int .i64 0, .int .u32 0, .int .i64 0, .int .i64 0, .int .i64 0, .bool false, .bool false, .int .i64 0, .int .u32 0, .int .i64 0, .int .i64 0, .int .i64 0, .int .i64 0, .int .i64 0], .int .i64 0], []⟩ 8 (by kernel_rfl) (by kernel_rfl) (by kernel_rfl) (x := ([.nil, .agg [.nil, .nil], .agg [.lit (.int .i64 0), .lit (.int .i64 0), .lit (.int .i64 0), .lit (.int .i64 0), .lit (.int .u32 0), .lit (.int .i64 0), .lit (.int .i64 0), .lit (.int .i64 0), .lit (.bool false), .lit (.bool false), .lit (.int .i64 0), .agg [.lit (.int .u32 0), .lit (.int .i64 0), .lit (.int .i64 0), .lit (.int .i64 0), .lit (.int .i64 0), .lit (.int .i64 0)]], .agg [.lit (.int .i64 0), .lit (.int .i64 0), .lit (.int .i64 0), .lit (.int .i64 0), .lit (.int .u32 0), .lit (.int .i64 0), .lit (.int .i64 0), .lit (.int .i64 0), .lit (.bool false), .lit (.bool false), .lit (.int .i64 0), .agg [.lit (.int .u32 0), .lit (.int .i64 0), .lit (.int .i64 0), .lit (.int .i64 0), .lit (.int .i64 0), .lit (.int .i64 0)]], .lit (.int .i64 0)], [], [])) (by kernel_rfl) rfl (by kernel_rfl)) ?_
  intro W base args ds gs before hval0 hW _ hk _
  have hval : ∀ (j : Nat) t v, Try.f8.params[j]? = some t → args[j]? = some v → Value.okWide Try.prog W .any base t v := hval0
  have hW' := hW
  obtain ⟨p, q, hA0, hV, rfl, hfz, hnd⟩ := hW
  have hA : DataW.TrodAll enc Try.prog W 0 (fun _ => true) true Try.f8.params.toList args.toList ds p := hA0
  rw [Try.params8] at hA hval
  obtain ⟨v0, vs0, d0, ds0, p0, q0, hargs, rfl, rfl, h0, r0⟩ := trodAll_cons hA
  obtain ⟨v1, vs1, d1, ds1, p1, q1, rfl, rfl, rfl, h1, r1⟩ := trodAll_cons r0
  obtain ⟨v2, vs2, d2, ds2, p2, q2, rfl, rfl, rfl, h2, r2⟩ := trodAll_cons r1
  obtain ⟨v3, vs3, d3, ds3, p3, q3, rfl, rfl, rfl, h3, r3⟩ := trodAll_cons r2
  obtain ⟨v4, vs4, d4, ds4, p4, q4, rfl, rfl, rfl, h4, r4⟩ := trodAll_cons r3
  obtain ⟨rfl, rfl, rfl⟩ := trodAll_nil r4
  obtain rfl : args = #[v0, v1, v2, v3, v4] := by cases args; simp_all
  obtain ⟨rfl, rfl⟩ := trodVars_none hV
  have lt0 : ∀ x ∈ p0, x.block < W.heap.size := by obtain ⟨m, hm⟩ := h0; exact DataW.trod_lt m _ _ _ hm
  obtain ⟨l0, e0, c0, s0, o0, n0⟩ := open_val2 (D := 8) (t := 22) (by kernel_rfl) (hval 0 22 v0 rfl rfl) h0
  have b0 := bulk_val (D := 8) (t := 22) (by kernel_rfl) h0 n0 c0 s0
  have lt1 : ∀ x ∈ p1, x.block < W.heap.size := by obtain ⟨m, hm⟩ := h1; exact DataW.trod_lt m _ _ _ hm
  obtain ⟨l1, e1, c1, s1, o1, n1⟩ := open_val2 (D := 8) (t := 30) (by kernel_rfl) (hval 1 30 v1 rfl rfl) h1
  have b1 := bulk_val (D := 8) (t := 30) (by kernel_rfl) h1 n1 c1 s1
  have lt2 : ∀ x ∈ p2, x.block < W.heap.size := by obtain ⟨m, hm⟩ := h2; exact DataW.trod_lt m _ _ _ hm
  obtain ⟨l2, e2, c2, s2, o2, n2⟩ := open_val2 (D := 8) (t := 39) (by kernel_rfl) (hval 2 39 v2 rfl rfl) h2
  have b2 := bulk_val (D := 8) (t := 39) (by kernel_rfl) h2 n2 c2 s2
  have lt3 : ∀ x ∈ p3, x.block < W.heap.size := by obtain ⟨m, hm⟩ := h3; exact DataW.trod_lt m _ _ _ hm
  obtain ⟨l3, e3, c3, s3, o3, n3⟩ := open_val2 (D := 8) (t := 39) (by kernel_rfl) (hval 3 39 v3 rfl rfl) h3
  have b3 := bulk_val (D := 8) (t := 39) (by kernel_rfl) h3 n3 c3 s3
  have lt4 : ∀ x ∈ p4, x.block < W.heap.size := by obtain ⟨m, hm⟩ := h4; exact DataW.trod_lt m _ _ _ hm
  obtain ⟨l4, e4, c4, s4, o4, n4⟩ := open_val2 (D := 8) (t := 3) (by kernel_rfl) (hval 4 3 v4 rfl rfl) h4
  have b4 := bulk_val (D := 8) (t := 3) (by kernel_rfl) h4 n4 c4 s4
  simp only [List.append_nil] at hk
  have hbd : Rows.uptoBulkAll [d0, d1, d2, d3, d4] ≤ 1048576 := of_decide_eq_true hk
  have q0b := bulk_part (d := d0) (ds := [d0, d1, d2, d3, d4]) (by simp)
  have q1b := bulk_part (d := d1) (ds := [d0, d1, d2, d3, d4]) (by simp)
  have q2b := bulk_part (d := d2) (ds := [d0, d1, d2, d3, d4]) (by simp)
  have q3b := bulk_part (d := d3) (ds := [d0, d1, d2, d3, d4]) (by simp)
  have q4b := bulk_part (d := d4) (ds := [d0, d1, d2, d3, d4]) (by simp)
  clear hA0 hval0
  have HW := (walk W l0 l1 l2 l3 l4 c0 s0 (o0 _ rfl) c1 s1 (o1 _ rfl) c2 s2 (o2 _ rfl) c3 s3 (o3 _ rfl) c4 s4 (o4 _ rfl) (by omega) (by omega) (by omega) (by omega) (by omega))
  rw [← e0, ← e1, ← e2, ← e3, ← e4] at HW
  refine HW.mono fun e W' ⟨he, bel⟩ => ?_
  subst he
  exact ⟨_, rfl, _, _, _, [], _, [], hW', trodAll_mk1 (shut_bool Try.underlying4 _), (trodAll_cons_mk (Below.trod laidOut (by kernel_rfl) (of_decide_eq_true (by kernel_rfl)) h0 bel lt0) (trodAll_cons_mk (Below.trod laidOut (by kernel_rfl) (of_decide_eq_true (by kernel_rfl)) h1 bel lt1) (trodAll_cons_mk (Below.trod laidOut (by kernel_rfl) (of_decide_eq_true (by kernel_rfl)) h2 bel lt2) (trodAll_cons_mk (Below.trod laidOut (by kernel_rfl) (of_decide_eq_true (by kernel_rfl)) h3 bel lt3) (trodAll_cons_mk (Below.trod laidOut (by kernel_rfl) (of_decide_eq_true (by kernel_rfl)) h4 bel lt4) trodAll_mk0))))), rfl, bel.frame _, fun h => by cases h⟩

theorem of_walk (walk : Walk) : Rows.MergeExactUptoSaid :=
  OpenClaim.holds_of_cond 8 Try.f8 rfl rfl rfl rfl rfl rfl rfl ⟨rfl, rfl, rfl, rfl, rfl⟩ rfl rfl rfl rfl rfl (by kernel_rfl) Try.func8 (by kernel_rfl)
    (of_decide_eq_true (by kernel_rfl)) (by unfold Func.isWrapper; first | (rw [if_pos (by decide +kernel)]; kernel_rfl) | (rw [if_neg (by decide +kernel)]; exact ⟨rfl, rfl⟩))
    (fun os started H enc _ F => lifted walk os started H enc F)
end Go.Proofs.Ythhofjkbmnklmaa.mergeExact

