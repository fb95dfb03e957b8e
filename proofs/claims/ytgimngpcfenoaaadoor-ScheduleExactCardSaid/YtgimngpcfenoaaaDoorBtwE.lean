/- schedule.Between, by the evaluator. -/
import Derived.Test.YtgimngpcfenoaaaDoorIterE
set_option linter.unusedSimpArgs false
set_option linter.unusedVariables false
namespace Go.Proofs.YtgimngpcfenoaaaDoor
namespace Eng
section
variable {P : Program} {F : Frm}
theorem SatJ.adoptBox {c : Code} {rd9 : Option Nat} {ds : List Deferred} {K : Exit → List Deferred → St → Prop} {n : Nat} {env : List (Nat × SV)} {own : List Own} (id j : Nat) (e sz : Nat) (rd : Nat → Nat → SV) {blk ty sz0 : Nat} {cs : List SV} {rd0 : Nat → Nat → SV} (hl : own[id]? = some (.box blk ty cs)) (hj : cs[j]? = some (.sl none 0 0 sz0 rd0))
    (h : SatJ P F rd9 c ds ⟨n, env, own.set id (.box blk ty (cs.set j (.os own.length none 0 0))) ++ [.row none e 0 0 sz rd]⟩ K) : SatJ P F rd9 c ds ⟨n, env, own⟩ K := by
  rintro R0 w0 a w ⟨ob, R, hr⟩ n9
  refine h R0 w0 a w ⟨ob, R, ?_⟩ n9
  have hbox := hr.own id _ hl
  have hidl : id < own.length := (List.getElem?_eq_some_iff.1 hl).1
  have hjl : j < cs.length := (List.getElem?_eq_some_iff.1 hj).1
  have hden : (cs.set j (.os own.length none 0 0)).map SV.den = cs.map SV.den := by
    apply List.ext_getElem?
    intro q
    rw [List.getElem?_map, List.getElem?_map, List.getElem?_set]
    by_cases e : j = q
    · subst e
      rw [if_pos rfl, if_pos hjl, hj]; rfl
    · rw [if_neg e]
  have hok : (Own.box blk ty (cs.set j (.os own.length none 0 0))).ok R ob w := by
    refine ⟨hbox.1, hbox.2.1, by rw [hden]; exact hbox.2.2.1, fun x hx => ?_⟩
    rcases List.mem_or_eq_of_mem_set hx with hx | rfl
    · exact hbox.2.2.2 x hx
    · exact ⟨rfl, trivial⟩
  have h1 : RelR F R0 w0 ob R ⟨n, env, own.set id (.box blk ty (cs.set j (.os own.length none 0 0)))⟩ a w := by
    refine ⟨hr.defers, hr.env, hr.size, ?_, ?_, hr.evo, hr.inv, hr.obM, ?_, hr.obw, hr.rr, hr.r0⟩
    · intro i x hx
      rw [List.getElem?_set] at hx
      split at hx
      · simp only [hidl, if_true, Option.some.injEq] at hx
        subst hx
        exact hok
      · exact hr.own i x hx
    · intro i k x y hik hx hy b hb1 hb2
      rw [List.getElem?_set] at hx hy
      split at hx <;> split at hy
      · omega
      · rename_i e1 _
        subst e1
        simp only [hidl, if_true, Option.some.injEq] at hx
        subst hx
        exact hr.dist id k _ y hik hl hy b hb1 hb2
      · rename_i _ e1
        subst e1
        simp only [hidl, if_true, Option.some.injEq] at hy
        subst hy
        exact hr.dist i id x _ hik hx hl b hb1 hb2
      · exact hr.dist i k x y hik hx hy b hb1 hb2
    · exact gb_set (m := w0.w.heap.size) (Nat.le_refl _) hr.gb hl fun b hb => .inl hb
  exact h1.newRow (o := .row none e 0 0 sz rd) (w' := w) (grown_refl w none) (fun b hb => by cases hb) ⟨by simpa [cellsOf] using World.ownsRow_nil w _ e sz, (fun g hg => by cases hg), (fun i j hi => absurd hi (Nat.not_lt_zero _))⟩
theorem SatJ.code {rd : Option Nat} {ds : List Deferred} {st : St} {c c' : Code} {K : Exit → List Deferred → St → Prop} (h : c' = c) (hs : SatJ P F rd c' ds st K) : SatJ P F rd c ds st K := h ▸ hs
theorem plain_nil : plainEnv [] := fun _ _ h => by cases h
theorem plain_cons {u : Nat} {s : SV} {l : List (Nat × SV)} (hs : ∀ R w, s.ok R w) (h : plainEnv l) : plainEnv ((u, s) :: l) := by
  intro t s' ht
  simp only [look] at ht
  split at ht
  · cases ht; exact hs
  · exact h t s' ht
theorem SatJ.post_le {rd : Option Nat} {ds : List Deferred} {st : St} {c : Code} {K : Exit → List Deferred → St → Prop} (h : SatJ P F rd c ds st fun e ds' st' => ∃ st2, Le st' st2 ∧ K e ds' st2) : SatJ P F rd c ds st K :=
  fun R0 w0 a w hr n => Go.wpIn_mono (h R0 w0 a w hr n) fun e a' w' ⟨st', ds', a1, ⟨st2, hl, hk⟩, hr', ha⟩ => ⟨st2, ds', a1, hk, hr'.le hl, ha⟩
theorem SatJ.rangeFuncG {st : St} {K : Exit → List Deferred → St → Prop} {g : Operand} {q : Tmp} {assign body : Code} {f : FuncId} {nf : Nat} {rdv : Nat → SV} {fn : Func} {c : Code} (envR : List (Nat × SV))
    (hg : ev st.env g = some (.fn f nf rdv)) (hf : P.funcs[f]? = some fn) (hb : fn.body = some c) (hname : (fn.name == "runtime.NumGoroutine") = false) (hres : fn.results = #[])
    (hle : envLe st.env envR)
    (h : ∀ asg bo, assign = asg → body = bo → ∀ l D, SatJ P F none c [] ⟨fn.ntmps, argEnv 0 (.v (.func (.yield l) #[] #[]) :: (List.range nf).map rdv), st.own ++ [.res D (defP D), recO l .ready none envR st.n #[q] asg bo D]⟩ (iterK st l D envR #[q] asg bo K)) :
    SatJ P F none (.rangeFunc g #[q] assign body) [] st K := SatJ.rangeFunc envR hg hf hb hname hres hle (h _ _ rfl rfl)
end
end Eng
open Go.Sort Eng
set_option maxRecDepth 100000 in
theorem allowedC (F : Frm) (p : PlanP) : Contract F Tryd.prog 26 [planS p] (fun r => ∃ blk rd, r = .fn 40 1 rd ∧ rd 0 = .el ⟨blk, 0, none⟩ 3 fun j => (planC p).getD j default) := by
  refine contract_of Tryd.func26 rfl (by kernel_rfl) ?_
  simp only [Tryd.ntmps26, argEnv, planS, planC]
  (repeat refine Sat.seq ?_)
  (refine Sat.region_k fun k hk => ?_; simp -implicitDefEqProofs only [evr, id, reduceCtorEq, reduceIte, Nat.reduceMul, Nat.reduceAdd, Nat.reduceLT, Nat.reduceLeDiff, Nat.reduceEqDiff, Int.reduceLT, Int.reduceBEq, Int.reduceBNe, Nat.reduceBEq, due_one, List.cons_append, List.nil_append, sh1, due_0, due_1, due_2, planC, evn])
  intro b1
  (refine hk _ ?_; clear hk k; try show Sat _ _ _ _ _)
  (repeat refine Sat.seq ?_)
  (refine Sat.region_k fun k hk => ?_; simp -implicitDefEqProofs only [evr, id, reduceCtorEq, reduceIte, Nat.reduceMul, Nat.reduceAdd, Nat.reduceLT, Nat.reduceLeDiff, Nat.reduceEqDiff, Int.reduceLT, Int.reduceBEq, Int.reduceBNe, Nat.reduceBEq, due_one, List.cons_append, List.nil_append, sh1, due_0, due_1, due_2, planC, evn]; refine hk _ ?_; clear hk k; try show Sat _ _ _ _ _)
  refine Sat.ret ?_
  simp only [Tryd.results26, evr, id, reduceCtorEq, reduceIte, Nat.reduceMul, Nat.reduceAdd, Nat.reduceLT, Nat.reduceLeDiff, Nat.reduceEqDiff, Int.reduceLT, Int.reduceBEq, Int.reduceBNe, Nat.reduceBEq, List.append_nil, Int.toNat_zero, Nat.sub_self, due_one, List.cons_append, List.nil_append, sh1, due_0, due_1, due_2, planC]
  refine ⟨b1, _, rfl, ?_⟩
  simp [roPtr, planC]
def btw (lo hi : Int) : List Due → List Due
  | [] => []
  | d :: ds => if d.at_ ≥ hi then [] else if d.at_ ≥ lo then d :: btw lo hi ds else btw lo hi ds
def early (hi : Int) (xs : List Due) : Prop := ∀ d ∈ xs, d.at_ < hi
theorem btw_app {lo hi : Int} : ∀ {xs ys : List Due}, early hi xs → btw lo hi (xs ++ ys) = xs.filter (fun d => decide (d.at_ ≥ lo)) ++ btw lo hi ys
  | [], ys, _ => rfl
  | x :: xs, ys, h => by
    have hx : ¬ x.at_ ≥ hi := by have := h x (by simp); omega
    have ih := btw_app (lo := lo) (xs := xs) (ys := ys) fun d hd => h d (by simp [hd])
    simp only [List.cons_append, btw, if_neg hx, ih]
    by_cases h2 : x.at_ ≥ lo
    · simp [h2]
    · simp [h2]
theorem btw_early {lo hi : Int} {xs : List Due} (h : early hi xs) : btw lo hi xs = xs.filter fun d => decide (d.at_ ≥ lo) := by
  have := btw_app (lo := lo) (ys := []) h
  simpa [btw] using this
structure BSt where
  out : List Due
  a : Option Addr
  cap : Nat
set_option maxRecDepth 100000 in
theorem betweenC (F : Frm) (p : PlanP) (lo hi : Int) (hn : p.ts.length ≤ 1000) (hok : ∀ t ∈ p.ts, tskOk t) (hb : 0 ≤ p.burst ∧ p.burst ≤ 65536) (he : 0 ≤ p.every ∧ p.every ≤ 1073741824)
    (L : List Due) (hL : ∀ L', Sched L' p.ts → L' = L) (hat : ∀ d ∈ L, 0 ≤ d.at_ ∧ d.at_ ≤ 1125899906842624) (hlen : L.length ≤ 1000000) :
    Contract F Tryd.prog 21 [planS p, .i .i64 lo, .i .i64 hi] (fun r => ∃ a cap, r = .sl a (btw lo hi (sentG p.burst p.every ⟨p.burst * p.every, 0⟩ L)).length cap 3 (dueRd (btw lo hi (sentG p.burst p.every ⟨p.burst * p.every, 0⟩ L)).toArray)) := by
  generalize hS : sentG p.burst p.every ⟨p.burst * p.every, 0⟩ L = S
  refine contractJ_of Tryd.func21 rfl (by kernel_rfl) ?_
  simp only [Tryd.ntmps21, argEnv, planS, planC]
  (repeat refine SatJ.seq ?_)
  (refine SatJ.region_k fun k hk => ?_; simp -implicitDefEqProofs only [evr, id, reduceCtorEq, reduceIte, Nat.reduceMul, Nat.reduceAdd, Nat.reduceLT, Nat.reduceLeDiff, Nat.reduceEqDiff, Int.reduceLT, Int.reduceBEq, Int.reduceBNe, Nat.reduceBEq, due_one, List.cons_append, List.nil_append, sh1, due_0, due_1, due_2, planC, evn])
  intro b3 b4 b5
  (refine hk _ ?_; clear hk k; try show SatJ _ _ _ _ _ _ _)
  (repeat refine SatJ.seq ?_)
  (refine SatJ.region_k fun k hk => ?_; simp -implicitDefEqProofs only [evr, id, reduceCtorEq, reduceIte, Nat.reduceMul, Nat.reduceAdd, Nat.reduceLT, Nat.reduceLeDiff, Nat.reduceEqDiff, Int.reduceLT, Int.reduceBEq, Int.reduceBNe, Nat.reduceBEq, due_one, List.cons_append, List.nil_append, sh1, due_0, due_1, due_2, planC, evn])
  intro b7
  (refine hk _ ?_; clear hk k; try show SatJ _ _ _ _ _ _ _)
  refine SatJ.adoptBox 3 0 36 3 (dueRd #[]) rfl rfl ?_
  simp -implicitDefEqProofs only [evr, id, reduceCtorEq, reduceIte, Nat.reduceMul, Nat.reduceAdd, Nat.reduceLT, Nat.reduceLeDiff, Nat.reduceEqDiff, Int.reduceLT, Int.reduceBEq, Int.reduceBNe, Nat.reduceBEq, due_one, List.cons_append, List.nil_append, sh1, due_0, due_1, due_2, planC, evn]
  (repeat refine SatJ.seq ?_)
  (refine SatJ.region_k fun k hk => ?_; simp -implicitDefEqProofs only [evr, id, reduceCtorEq, reduceIte, Nat.reduceMul, Nat.reduceAdd, Nat.reduceLT, Nat.reduceLeDiff, Nat.reduceEqDiff, Int.reduceLT, Int.reduceBEq, Int.reduceBNe, Nat.reduceBEq, due_one, List.cons_append, List.nil_append, sh1, due_0, due_1, due_2, planC, evn])
  refine wcall_slice (allowedC F p) rfl rfl ?_
  rintro r ⟨blk, rd, rfl, hrd⟩
  simp -implicitDefEqProofs only [evr, id, reduceCtorEq, reduceIte, Nat.reduceMul, Nat.reduceAdd, Nat.reduceLT, Nat.reduceLeDiff, Nat.reduceEqDiff, Int.reduceLT, Int.reduceBEq, Int.reduceBNe, Nat.reduceBEq, due_one, List.cons_append, List.nil_append, sh1, due_0, due_1, due_2, planC, evn]
  (refine hk _ ?_; clear hk k; try show SatJ _ _ _ _ _ _ _)
  refine SatJ.block ?_
  refine SatJ.rangeFuncG [(7, .op 3 b7 0), (5, .op 2 b5 0), (4, .op 1 b4 0), (3, .op 0 b3 0)] rfl Tryd.func40 rfl (by kernel_rfl) rfl (by simp -implicitDefEqProofs only [evr, id, reduceCtorEq, reduceIte, Nat.reduceMul, Nat.reduceAdd, Nat.reduceLT, Nat.reduceLeDiff, Nat.reduceEqDiff, Int.reduceLT, Int.reduceBEq, Int.reduceBNe, Nat.reduceBEq, due_one, List.cons_append, List.nil_append, sh1, due_0, due_1, due_2, planC, evl, evn]) ?_
  intro asg bo has hbo l D
  have hit0 := iter5 F p hn hok hb he L hL hat hlen (σ := BSt) (fun _ => .box b3 28 (planC p)) (fun _ => .box b4 3 [.i .i64 lo]) (fun _ => .box b5 3 [.i .i64 hi])
    (fun s => .box b7 32 [.os 4 s.a s.out.length s.cap]) (fun s => dueRow s.a s.out.length s.cap s.out.toArray)
    (fun pre s => s.out = pre.filter (fun d => decide (d.at_ ≥ lo)) ∧ early hi pre)
    (fun pd pre s => pd = .exit 0 ∧ ∃ pre0 d, pre = pre0 ++ [d] ∧ s.out = pre0.filter (fun d => decide (d.at_ ≥ lo)) ∧ early hi pre0 ∧ d.at_ ≥ hi)
    l D 25 [(7, .op 3 b7 0), (5, .op 2 b5 0), (4, .op 1 b4 0), (3, .op 0 b3 0)] 11 asg bo blk ⟨[], none, 0⟩ ⟨rfl, fun d hd => by cases hd⟩
  rw [hS] at hit0
  refine (fun hy => ?_ : (_ → _)) (hit0 ?_)
  · obtain ⟨c, hc, hit⟩ := hy
    have hc2 := Option.some.inj hc
    subst hc2
    simp only [show List.range 1 = [0] from rfl, List.map_cons, List.map_nil, hrd, List.cons_append, List.nil_append]
    refine hit.mono ?_
    clear hit hit0 hc
    rintro e ds st' ⟨he1, rfl, hcase⟩
    unfold iterK
    refine ⟨he1, rfl, ?_⟩
    rcases hcase with ⟨s, tl, ⟨hs1, hs2⟩, hown⟩ | ⟨s, tl, pre, pd, ⟨rfl, pre0, d, rfl, hs1, hs2, hs3⟩, ⟨rest, hr⟩, hown⟩
    · refine ⟨.ready, none, by decide, by rw [hown]; rfl, ?_⟩
      have hout : s.out = btw lo hi S := by rw [hs1, btw_early hs2]
      clear hs1 hs2
      simp only [thenJ, blockJ, hown, dueRow, planC, List.length_cons, List.length_nil, List.set_cons_succ, List.set_cons_zero, if_true]
      (repeat refine SatJ.seq ?_)
      (refine SatJ.region_k fun k hk => ?_; simp -implicitDefEqProofs only [evr, id, reduceCtorEq, reduceIte, Nat.reduceMul, Nat.reduceAdd, Nat.reduceLT, Nat.reduceLeDiff, Nat.reduceEqDiff, Int.reduceLT, Int.reduceBEq, Int.reduceBNe, Nat.reduceBEq, due_one, List.cons_append, List.nil_append, sh1, due_0, due_1, due_2, planC, evn]; refine hk _ ?_; clear hk k; try show SatJ _ _ _ _ _ _ _)
      refine SatJ.ret ?_
      refine ⟨.inr rfl, D, 5, rfl, rfl, ?_⟩
      simp only [Tryd.results21, evr, id, reduceCtorEq, reduceIte, Nat.reduceMul, Nat.reduceAdd, Nat.reduceLT, Nat.reduceLeDiff, Nat.reduceEqDiff, Int.reduceLT, Int.reduceBEq, Int.reduceBNe, Nat.reduceBEq, List.append_nil, Int.toNat_zero, Nat.sub_self, due_one, List.cons_append, List.nil_append, sh1, due_0, due_1, due_2, planC]
      rw [← hout]
      exact ⟨s.a, s.cap, rfl⟩
    · refine ⟨.done, some (.exit 0), by decide, by rw [hown]; rfl, ?_⟩
      have hout : s.out = btw lo hi S := by
        rw [hr, List.append_assoc, btw_app hs2, hs1]
        simp only [List.cons_append, btw, if_pos hs3, List.append_nil]
      clear hs1 hs2 hs3 hr
      simp only [thenJ, blockJ, hown, dueRow, planC, List.length_cons, List.length_nil, List.set_cons_succ, List.set_cons_zero, if_true]
      (repeat refine SatJ.seq ?_)
      (refine SatJ.region_k fun k hk => ?_; simp -implicitDefEqProofs only [evr, id, reduceCtorEq, reduceIte, Nat.reduceMul, Nat.reduceAdd, Nat.reduceLT, Nat.reduceLeDiff, Nat.reduceEqDiff, Int.reduceLT, Int.reduceBEq, Int.reduceBNe, Nat.reduceBEq, due_one, List.cons_append, List.nil_append, sh1, due_0, due_1, due_2, planC, evn]; refine hk _ ?_; clear hk k; try show SatJ _ _ _ _ _ _ _)
      refine SatJ.ret ?_
      refine ⟨.inr rfl, D, 5, rfl, rfl, ?_⟩
      simp only [Tryd.results21, evr, id, reduceCtorEq, reduceIte, Nat.reduceMul, Nat.reduceAdd, Nat.reduceLT, Nat.reduceLeDiff, Nat.reduceEqDiff, Int.reduceLT, Int.reduceBEq, Int.reduceBNe, Nat.reduceBEq, List.append_nil, Int.toNat_zero, Nat.sub_self, due_one, List.cons_append, List.nil_append, sh1, due_0, due_1, due_2, planC]
      rw [← hout]
      exact ⟨s.a, s.cap, rfl⟩
  · intro pre d s kk n env x y dst hlt hs ht hf
    obtain ⟨hs1, hs2⟩ := hs
    refine yieldK_of (i := 6) rfl (show 11 < 25 by decide) (plain_cons (fun _ _ => trivial) (plain_cons (fun _ _ => trivial) (plain_cons (fun _ _ => trivial) (plain_cons (fun _ _ => trivial) plain_nil)))) ?_
    refine SatJ.code has ?_
    simp only [dueAg, Due.cs, dueRow, planC]
    (refine SatJ.region_k fun k hk => ?_; simp -implicitDefEqProofs only [evr, id, reduceCtorEq, reduceIte, Nat.reduceMul, Nat.reduceAdd, Nat.reduceLT, Nat.reduceLeDiff, Nat.reduceEqDiff, Int.reduceLT, Int.reduceBEq, Int.reduceBNe, Nat.reduceBEq, due_one, List.cons_append, List.nil_append, sh1, due_0, due_1, due_2, planC, evn])
    intro b8
    (refine hk _ ?_; clear hk k; try show SatJ _ _ _ _ _ _ _)
    refine ⟨rfl, rfl, ?_⟩
    refine SatJ.code hbo ?_
    simp only [List.set_cons_succ, List.set_cons_zero]
    refine SatJ.block ?_
    (repeat refine SatJ.seq ?_)
    (refine SatJ.region_k fun k hk => ?_; simp -implicitDefEqProofs only [evr, id, reduceCtorEq, reduceIte, Nat.reduceMul, Nat.reduceAdd, Nat.reduceLT, Nat.reduceLeDiff, Nat.reduceEqDiff, Int.reduceLT, Int.reduceBEq, Int.reduceBNe, Nat.reduceBEq, due_one, List.cons_append, List.nil_append, sh1, due_0, due_1, due_2, planC, evn]; refine hk _ ?_; clear hk k; try show SatJ _ _ _ _ _ _ _)
    refine SatJ.cond_b rfl (fun h1 => ?_) (fun h1 => ?_)
    · refine SatJ.exit ?_
      simp only [thenJ, blockJ, jumpOf]
      rw [if_neg (by decide)]
      have h1 := of_decide_eq_true h1
      exact ⟨rfl, hf s _ (.exit 0) ⟨rfl, pre, d, rfl, hs1, hs2, h1⟩⟩
    · have h1 : d.at_ < hi := by have := of_decide_eq_false h1; omega
      have hs3 : early hi (pre ++ [d]) := fun z hz => by
        rcases List.mem_append.1 hz with hz | hz
        · exact hs2 z hz
        · rw [List.mem_singleton.1 hz]; exact h1
      refine SatJ.skip ?_
      simp only [thenJ, blockJ]
      (repeat refine SatJ.seq ?_)
      (refine SatJ.region_k fun k hk => ?_; simp -implicitDefEqProofs only [evr, id, reduceCtorEq, reduceIte, Nat.reduceMul, Nat.reduceAdd, Nat.reduceLT, Nat.reduceLeDiff, Nat.reduceEqDiff, Int.reduceLT, Int.reduceBEq, Int.reduceBNe, Nat.reduceBEq, due_one, List.cons_append, List.nil_append, sh1, due_0, due_1, due_2, planC, evn]; refine hk _ ?_; clear hk k; try show SatJ _ _ _ _ _ _ _)
      refine SatJ.cond_b rfl (fun h2 => ?_) (fun h2 => ?_)
      · refine SatJ.post_le ?_
        have h2 := of_decide_eq_true h2
        have hlo : s.out.length ≤ 1000000 := by
          have := List.length_filter_le (fun d : Due => decide (d.at_ ≥ lo)) pre
          rw [← hs1] at this
          omega
        (refine SatJ.region_k fun k hk => ?_; simp -implicitDefEqProofs only [evr, id, reduceCtorEq, reduceIte, Nat.reduceMul, Nat.reduceAdd, Nat.reduceLT, Nat.reduceLeDiff, Nat.reduceEqDiff, Int.reduceLT, Int.reduceBEq, Int.reduceBNe, Nat.reduceBEq, due_one, List.cons_append, List.nil_append, sh1, due_0, due_1, due_2, planC, evn])
        intro blk2
        refine ⟨⟨by unfold maxLen; omega, by omega⟩, fun a2 cap2 => hk _ ?_⟩
        clear hk k
        simp only [thenJ, blockJ, jumpOf]
        refine ⟨⟨25, [], [.box b3 28 (planC p), .box b4 3 [.i .i64 lo], .box b5 3 [.i .i64 hi], .box b7 32 [.os 4 a2 (s.out ++ [d]).length cap2], dueRow a2 (s.out ++ [d]).length cap2 (s.out ++ [d]).toArray, .res D (defP D),
          recO l .busy none [(7, .op 3 b7 0), (5, .op 2 b5 0), (4, .op 1 b4 0), (3, .op 0 b3 0)] 25 #[11] asg bo D, x, y, .box b8 36 (Due.cs d)]⟩,
          ⟨rfl, trivial, ⟨rfl, rfl, rfl⟩, ⟨rfl, rfl, rfl⟩, ⟨rfl, rfl, rfl⟩, ⟨rfl, rfl, by simp⟩, ⟨rfl, rfl, by simp, rfl, rfl, due_app s.out d⟩, ole _, ole _, ole _, ole _, ole _, trivial⟩, rfl, ?_⟩
        exact ht ⟨s.out ++ [d], a2, cap2⟩ [_] ⟨by rw [List.filter_append, ← hs1]; simp [h2], hs3⟩
      · have h2 := of_decide_eq_false h2
        refine SatJ.skip ?_
        simp only [thenJ, blockJ, jumpOf]
        exact ⟨rfl, ht s [_] ⟨by rw [List.filter_append, ← hs1]; simp; omega, hs3⟩⟩
end Go.Proofs.YtgimngpcfenoaaaDoor
