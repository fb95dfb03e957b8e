/- schedule.Sent, by the evaluator. -/
import Derived.Test.YtgimngpcfenoaaaDoorBtwE
set_option linter.unusedSimpArgs false
set_option linter.unusedVariables false
namespace Go.Proofs.YtgimngpcfenoaaaDoor
open Go.Sort Eng
set_option maxRecDepth 100000 in
theorem iter2 {σ : Type} (F : Frm) (p : PlanP) (hn : p.ts.length ≤ 1000) (hok : ∀ t ∈ p.ts, tskOk t) (hb : 0 ≤ p.burst ∧ p.burst ≤ 65536) (he : 0 ≤ p.every ∧ p.every ≤ 1073741824)
    (L : List Due) (hL : ∀ L', Sched L' p.ts → L' = L) (hat : ∀ d ∈ L, 0 ≤ d.at_ ∧ d.at_ ≤ 1125899906842624) (hlen : L.length ≤ 1000000)
    (o0 o1 : σ → Eng.Own) (I : List Due → σ → Prop) (X : Code → List Due → σ → Prop) (l D nC : Nat) (envR : List (Nat × SV)) (q : Tmp) (assign body : Code) (blk : Nat) (s0 : σ) (h0 : I [] s0)
    (hy : ∀ (pre : List Due) (d : Due) (s : σ) (k : St → Prop) (n : Nat) (env : List (Nat × SV)) (x y : Eng.Own) (dst : Option Tmp), pre.length < L.length → I pre s →
      (∀ s' tl', I (pre ++ [d]) s' → k ((⟨n, env, o0 s' :: o1 s' :: .res D (defP D) :: recO l .ready none envR nC #[q] assign body D :: (x :: y :: tl')⟩ : St).put dst .tt)) →
      (∀ s' tl' pd, X pd (pre ++ [d]) s' → k ((⟨n, env, o0 s' :: o1 s' :: .res D (defP D) :: recO l .done (some pd) envR nC #[q] assign body D :: (x :: y :: tl')⟩ : St).put dst .ff)) →
      YieldK Tryd.prog F l [dueAg d] ⟨n, env, o0 s :: o1 s :: .res D (defP D) :: recO l .ready none envR nC #[q] assign body D :: [x, y]⟩ dst k) :
    ∃ c, Tryd.f40.body = some c ∧ SatJ Tryd.prog F none c [] ⟨Tryd.f40.ntmps, argEnv 0 [.v (.func (.yield l) #[] #[]), .el ⟨blk, 0, none⟩ 3 fun j => (planC p).getD j default], o0 s0 :: o1 s0 :: .res D (defP D) :: recO l .ready none envR nC #[q] assign body D :: []⟩
      (fun e ds st' => (e = .normal ∨ e = .ret) ∧ ds = [] ∧ ((∃ s tl, I (sentG p.burst p.every ⟨p.burst * p.every, 0⟩ L) s ∧ st'.own = o0 s :: o1 s :: .res D (defP D) :: recO l .ready none envR nC #[q] assign body D :: tl) ∨
        (∃ s tl pre pd, X pd pre s ∧ (∃ rest, sentG p.burst p.every ⟨p.burst * p.every, 0⟩ L = pre ++ rest) ∧ st'.own = o0 s :: o1 s :: .res D (defP D) :: recO l .done (some pd) envR nC #[q] assign body D :: tl))) := by
  simp only [Tryd.ntmps40, argEnv, planC]
  refine ⟨_, rfl, ?_⟩
  (repeat refine SatJ.seq ?_)
  (refine SatJ.region_k fun k hk => ?_; simp -implicitDefEqProofs only [evr, id, reduceCtorEq, reduceIte, Nat.reduceMul, Nat.reduceAdd, Nat.reduceLT, Nat.reduceLeDiff, Nat.reduceEqDiff, Int.reduceLT, Int.reduceBEq, Int.reduceBNe, Nat.reduceBEq, due_one, List.cons_append, List.nil_append, sh1, due_0, due_1, due_2, planC, evn])
  refine wcall_plain (fullC F p.burst p.every 0 hb he) rfl (by rintro _ rfl; exact ok_aggL (l := [SV.i .i64 _, .i .i64 _]) rfl) ?_
  rintro r rfl
  simp -implicitDefEqProofs only [evr, id, reduceCtorEq, reduceIte, Nat.reduceMul, Nat.reduceAdd, Nat.reduceLT, Nat.reduceLeDiff, Nat.reduceEqDiff, Int.reduceLT, Int.reduceBEq, Int.reduceBNe, Nat.reduceBEq, due_one, List.cons_append, List.nil_append, sh1, due_0, due_1, due_2, planC, tokS, tokL, evn]
  intro b3
  (refine hk _ ?_; clear hk k; try show SatJ _ _ _ _ _ _ _)
  (repeat refine SatJ.seq ?_)
  (refine SatJ.region_k fun k hk => ?_; simp -implicitDefEqProofs only [evr, id, reduceCtorEq, reduceIte, Nat.reduceMul, Nat.reduceAdd, Nat.reduceLT, Nat.reduceLeDiff, Nat.reduceEqDiff, Int.reduceLT, Int.reduceBEq, Int.reduceBNe, Nat.reduceBEq, due_one, List.cons_append, List.nil_append, sh1, due_0, due_1, due_2, planC, evn])
  refine wcall_slice (allDueC F p hn hok) rfl rfl ?_
  rintro r ⟨a, cap, L', hS, rfl⟩
  obtain rfl := hL _ hS
  simp -implicitDefEqProofs only [evr, id, reduceCtorEq, reduceIte, Nat.reduceMul, Nat.reduceAdd, Nat.reduceLT, Nat.reduceLeDiff, Nat.reduceEqDiff, Int.reduceLT, Int.reduceBEq, Int.reduceBNe, Nat.reduceBEq, due_one, List.cons_append, List.nil_append, sh1, due_0, due_1, due_2, planC, evn]
  (refine hk _ ?_; clear hk k; try show SatJ _ _ _ _ _ _ _)
  refine SatJ.block ?_
  refine SatJ.loop (ι := Nat × σ) (fun x => ⟨34, [(13, .i .i64 x.1), (12, .i .i64 L'.length), (11, .sl a L'.length cap 3 (dueRd L'.toArray)), (3, .op 4 b3 0), (0, .v (.func (.yield l) #[] #[])), (1, .el ⟨blk, 0, none⟩ 3 fun j => [.sl p.a p.ts.length p.cap 7 (tskRd p.ts), .i .i64 p.burst, .i .i64 p.every].getD j default)],
      o0 x.2 :: o1 x.2 :: .res D (defP D) :: recO l .ready none envR nC #[q] assign body D :: [.box b3 75 (tokL (tokG p.burst p.every ⟨p.burst * p.every, 0⟩ (L'.take x.1)))]⟩)
    (fun x => x.1 ≤ L'.length ∧ I (sentG p.burst p.every ⟨p.burst * p.every, 0⟩ (L'.take x.1)) x.2) (fun x => L'.length - x.1) (0, s0) ⟨Nat.zero_le _, h0⟩ (by
      simp only [List.take_zero, tokG, tokL]
      simp -implicitDefEqProofs only [evr, id, reduceCtorEq, reduceIte, Nat.reduceMul, Nat.reduceAdd, Nat.reduceLT, Nat.reduceLeDiff, Nat.reduceEqDiff, Int.reduceLT, Int.reduceBEq, Int.reduceBNe, Nat.reduceBEq, due_one, List.cons_append, List.nil_append, sh1, due_0, due_1, due_2, planC, evl, evn]
      exact ⟨rfl, ole _, ole _⟩) ?_
  rintro ⟨i, s⟩ ⟨hi, hI⟩
  simp only [tokL] at hi hI ⊢
  (repeat refine SatJ.seq ?_)
  (refine SatJ.region_k fun k hk => ?_; simp -implicitDefEqProofs only [evr, id, reduceCtorEq, reduceIte, Nat.reduceMul, Nat.reduceAdd, Nat.reduceLT, Nat.reduceLeDiff, Nat.reduceEqDiff, Int.reduceLT, Int.reduceBEq, Int.reduceBNe, Nat.reduceBEq, due_one, List.cons_append, List.nil_append, sh1, due_0, due_1, due_2, planC, evn]; refine hk _ ?_; clear hk k; try show SatJ _ _ _ _ _ _ _)
  (repeat refine SatJ.seq ?_)
  refine SatJ.cond_b rfl (fun h => ?_) (fun h => ?_)
  · have h1 : i < L'.length := by simp only [decide_eq_true_eq] at h; omega
    have e3 : IntKind.i64.wrap ((i : Int) + 1) = ((i + 1 : Nat) : Int) := by rw [w64 (by omega)]; omega
    have hdi : L'.toArray[i]! = L'[i] := by simp [getElem!_def, h1]
    have hmem : L'[i] ∈ L' := List.getElem_mem _
    have htk : L'.take (i + 1) = L'.take i ++ [L'[i]] := by rw [List.take_add_one, List.getElem?_eq_getElem h1]; rfl
    have hT := tokG_ok hb he ⟨p.burst * p.every, 0⟩ (L'.take i) (by
      have h0 : 0 ≤ p.burst * p.every := Int.mul_nonneg hb.1 he.1
      have h1 : p.burst * p.every ≤ 65536 * 1073741824 := Int.mul_le_mul hb.2 he.2 he.1 (by decide)
      exact ⟨h0, by dsimp only; omega, (show (0 : Int) ≤ 0 by decide), (show (0 : Int) ≤ 1125899906842624 by decide)⟩) (fun d hd => hat d (List.mem_of_mem_take hd))
    have htok := tokG_app p.burst p.every ⟨p.burst * p.every, 0⟩ (L'.take i) L'[i]
    have hsnt := sentG_app p.burst p.every ⟨p.burst * p.every, 0⟩ (L'.take i) L'[i]
    obtain ⟨rest, hrest⟩ := sentG_take p.burst p.every ⟨p.burst * p.every, 0⟩ (i + 1) L'
    rw [← htk] at htok hsnt
    rw [hsnt] at hrest
    have hpl : (sentG p.burst p.every ⟨p.burst * p.every, 0⟩ (L'.take i)).length < L'.length := by
      have := sentG_len p.burst p.every ⟨p.burst * p.every, 0⟩ (L'.take i)
      rw [List.length_take] at this
      omega
    have hda := hat _ hmem
    generalize L'[i] = d at hdi hmem htok hsnt hda hrest
    generalize sentG p.burst p.every ⟨p.burst * p.every, 0⟩ (L'.take i) = pre at hI hsnt hpl hrest
    generalize tokG p.burst p.every ⟨p.burst * p.every, 0⟩ (L'.take i) = T at hT htok hsnt hrest ⊢
    refine SatJ.skip ?_
    simp only [thenJ]
    (repeat refine SatJ.seq ?_)
    refine SatJ.block ?_
    (repeat refine SatJ.seq ?_)
    (refine SatJ.region_k fun k hk => ?_; simp -implicitDefEqProofs only [evr, id, reduceCtorEq, reduceIte, Nat.reduceMul, Nat.reduceAdd, Nat.reduceLT, Nat.reduceLeDiff, Nat.reduceEqDiff, Int.reduceLT, Int.reduceBEq, Int.reduceBNe, Nat.reduceBEq, due_one, List.cons_append, List.nil_append, sh1, due_0, due_1, due_2, planC, evn])
    refine ⟨by omega, ?_⟩
    simp only [hdi]
    intro b5
    (refine hk _ ?_; clear hk k; try show SatJ _ _ _ _ _ _ _)
    (repeat refine SatJ.seq ?_)
    (refine SatJ.region_k fun k hk => ?_; simp -implicitDefEqProofs only [evr, id, reduceCtorEq, reduceIte, Nat.reduceMul, Nat.reduceAdd, Nat.reduceLT, Nat.reduceLeDiff, Nat.reduceEqDiff, Int.reduceLT, Int.reduceBEq, Int.reduceBNe, Nat.reduceBEq, due_one, List.cons_append, List.nil_append, sh1, due_0, due_1, due_2, planC, evn]; refine hk _ ?_; clear hk k; try show SatJ _ _ _ _ _ _ _)
    (repeat refine SatJ.seq ?_)
    (refine SatJ.region_k fun k hk => ?_; simp -implicitDefEqProofs only [evr, id, reduceCtorEq, reduceIte, Nat.reduceMul, Nat.reduceAdd, Nat.reduceLT, Nat.reduceLeDiff, Nat.reduceEqDiff, Int.reduceLT, Int.reduceBEq, Int.reduceBNe, Nat.reduceBEq, due_one, List.cons_append, List.nil_append, sh1, due_0, due_1, due_2, planC, evn])
    refine wcall_plain (takeC F p.burst p.every T d.at_ hb he hT hda) rfl (by rintro _ rfl; intro R w j hj; rcases (show j = 0 ∨ j = 1 by omega) with rfl | rfl; exact ok_aggL (l := [SV.i .i64 _, .i .i64 _]) rfl R w; trivial) ?_
    rintro r rfl
    simp -implicitDefEqProofs only [evr, id, reduceCtorEq, reduceIte, Nat.reduceMul, Nat.reduceAdd, Nat.reduceLT, Nat.reduceLeDiff, Nat.reduceEqDiff, Int.reduceLT, Int.reduceBEq, Int.reduceBNe, Nat.reduceBEq, due_one, List.cons_append, List.nil_append, sh1, due_0, due_1, due_2, planC, tokS, tokL, evn]
    (refine hk _ ?_; clear hk k; try show SatJ _ _ _ _ _ _ _)
    generalize hB : (takeF p.burst p.every T d.at_).2 = B at hsnt hrest ⊢
    generalize (takeF p.burst p.every T d.at_).1 = T2 at htok ⊢
    (repeat refine SatJ.seq ?_)
    refine SatJ.region_wl fun k hk => ?_
    refine WL.wo [_, _] [_, _, _, _, _] ?_
    simp -implicitDefEqProofs only [evr, id, reduceCtorEq, reduceIte, Nat.reduceMul, Nat.reduceAdd, Nat.reduceLT, Nat.reduceLeDiff, Nat.reduceEqDiff, Int.reduceLT, Int.reduceBEq, Int.reduceBNe, Nat.reduceBEq, due_one, List.cons_append, List.nil_append, sh1, due_0, due_1, due_2, planC, List.toList_toArray, evn]
    refine WL.know (t := 27) (x := B) rfl (fun h2 => ?_) (fun h2 => ?_)
    · refine WL.wo [_, _] [_, _, _] ?_
      simp -implicitDefEqProofs only [evr, id, reduceCtorEq, reduceIte, Nat.reduceMul, Nat.reduceAdd, Nat.reduceLT, Nat.reduceLeDiff, Nat.reduceEqDiff, Int.reduceLT, Int.reduceBEq, Int.reduceBNe, Nat.reduceBEq, due_one, List.cons_append, List.nil_append, sh1, due_0, due_1, due_2, planC, List.toList_toArray, evn]
      refine WL.yield (j := 1) (t := 27) rfl rfl rfl (show 30 < 34 by decide) (stepY_mk rfl ?_)
      refine hy pre d s _ _ _ _ _ _ hpl hI (fun s' tl' hI' => ?_) (fun s' tl' pd hX => ?_)
      · refine WL.wo [_, _] [] ?_
        simp -implicitDefEqProofs only [evr, id, reduceCtorEq, reduceIte, Nat.reduceMul, Nat.reduceAdd, Nat.reduceLT, Nat.reduceLeDiff, Nat.reduceEqDiff, Int.reduceLT, Int.reduceBEq, Int.reduceBNe, Nat.reduceBEq, due_one, List.cons_append, List.nil_append, sh1, due_0, due_1, due_2, planC, List.toList_toArray, evn]
        refine WL.nil (hk _ ?_)
        clear hk k
        refine SatJ.cond_ff rfl ?_
        refine SatJ.skip ?_
        simp only [thenJ, blockJ]
        refine SatJ.region_k fun k hk => ?_
        simp -implicitDefEqProofs only [evr, id, reduceCtorEq, reduceIte, Nat.reduceMul, Nat.reduceAdd, Nat.reduceLT, Nat.reduceLeDiff, Nat.reduceEqDiff, Int.reduceLT, Int.reduceBEq, Int.reduceBNe, Nat.reduceBEq, due_one, List.cons_append, List.nil_append, sh1, due_0, due_1, due_2, planC, e3, evn]
        refine hk _ ?_
        clear hk k
        simp only [thenJ, blockJ]
        refine ⟨trivial, (i + 1, s'), ⟨by simp only; omega, by simp only [hsnt, h2, if_true]; exact hI'⟩, by simp only; omega, ?_⟩
        simp only [htok, tokL]
        simp -implicitDefEqProofs only [evr, id, reduceCtorEq, reduceIte, Nat.reduceMul, Nat.reduceAdd, Nat.reduceLT, Nat.reduceLeDiff, Nat.reduceEqDiff, Int.reduceLT, Int.reduceBEq, Int.reduceBNe, Nat.reduceBEq, due_one, List.cons_append, List.nil_append, sh1, due_0, due_1, due_2, planC, evl, evn]
        exact ⟨ole _, ole _⟩
      · refine WL.wo [_, _] [] ?_
        simp -implicitDefEqProofs only [evr, id, reduceCtorEq, reduceIte, Nat.reduceMul, Nat.reduceAdd, Nat.reduceLT, Nat.reduceLeDiff, Nat.reduceEqDiff, Int.reduceLT, Int.reduceBEq, Int.reduceBNe, Nat.reduceBEq, due_one, List.cons_append, List.nil_append, sh1, due_0, due_1, due_2, planC, List.toList_toArray, evn]
        refine WL.nil (hk _ ?_)
        clear hk k
        refine SatJ.cond_tt rfl ?_
        refine SatJ.ret ?_
        simp only [thenJ, blockJ]
        exact ⟨.inr trivial, trivial, .inr ⟨s', _, _, pd, hX, ⟨rest, by rw [hrest, h2, if_pos rfl]⟩, rfl⟩⟩
    · refine WL.wo [_, _, _, _, _] [] ?_
      simp -implicitDefEqProofs only [evr, id, reduceCtorEq, reduceIte, Nat.reduceMul, Nat.reduceAdd, Nat.reduceLT, Nat.reduceLeDiff, Nat.reduceEqDiff, Int.reduceLT, Int.reduceBEq, Int.reduceBNe, Nat.reduceBEq, due_one, List.cons_append, List.nil_append, sh1, due_0, due_1, due_2, planC, List.toList_toArray, evn]
      refine WL.nil (hk _ ?_)
      clear hk k
      refine SatJ.cond_ff rfl ?_
      refine SatJ.skip ?_
      simp only [thenJ, blockJ]
      refine SatJ.region_k fun k hk => ?_
      simp -implicitDefEqProofs only [evr, id, reduceCtorEq, reduceIte, Nat.reduceMul, Nat.reduceAdd, Nat.reduceLT, Nat.reduceLeDiff, Nat.reduceEqDiff, Int.reduceLT, Int.reduceBEq, Int.reduceBNe, Nat.reduceBEq, due_one, List.cons_append, List.nil_append, sh1, due_0, due_1, due_2, planC, e3, evn]
      refine hk _ ?_
      clear hk k
      simp only [thenJ, blockJ]
      refine ⟨trivial, (i + 1, s), ⟨by simp only; omega, by simp only [hsnt, h2, Bool.false_eq_true, if_false, List.append_nil]; exact hI⟩, by simp only; omega, ?_⟩
      simp only [htok, tokL]
      simp -implicitDefEqProofs only [evr, id, reduceCtorEq, reduceIte, Nat.reduceMul, Nat.reduceAdd, Nat.reduceLT, Nat.reduceLeDiff, Nat.reduceEqDiff, Int.reduceLT, Int.reduceBEq, Int.reduceBNe, Nat.reduceBEq, due_one, List.cons_append, List.nil_append, sh1, due_0, due_1, due_2, planC, evl, evn]
      exact ⟨ole _, ole _⟩
  · have h1 : i = L'.length := by simp only [decide_eq_false_iff_not] at h; omega
    subst h1
    rw [List.take_length] at hI
    refine SatJ.exit ?_
    simp only [thenJ, blockJ, reduceIte]
    exact ⟨.inl trivial, trivial, .inl ⟨s, _, hI, rfl⟩⟩
set_option maxRecDepth 100000 in
theorem appSeqC (F : Frm) (p : PlanP) (blk : Nat) (rd : Nat → SV) (hrd : rd 0 = .el ⟨blk, 0, none⟩ 3 fun j => (planC p).getD j default) (hn : p.ts.length ≤ 1000) (hok : ∀ t ∈ p.ts, tskOk t) (hb : 0 ≤ p.burst ∧ p.burst ≤ 65536) (he : 0 ≤ p.every ∧ p.every ≤ 1073741824)
    (L : List Due) (hL : ∀ L', Sched L' p.ts → L' = L) (hat : ∀ d ∈ L, 0 ≤ d.at_ ∧ d.at_ ≤ 1125899906842624) (hlen : L.length ≤ 1000000) :
    Contract F Tryd.prog 39 [.sl none 0 0 0 fun _ _ => .v undef, .fn 40 1 rd] (fun r => ∃ a cap, r = .sl a (sentG p.burst p.every ⟨p.burst * p.every, 0⟩ L).length cap 3 (dueRd (sentG p.burst p.every ⟨p.burst * p.every, 0⟩ L).toArray)) := by
  generalize hS : sentG p.burst p.every ⟨p.burst * p.every, 0⟩ L = S
  refine contractJ_of Tryd.func39 rfl (by kernel_rfl) ?_
  simp only [Tryd.ntmps39, argEnv]
  (repeat refine SatJ.seq ?_)
  (refine SatJ.region_k fun k hk => ?_; simp -implicitDefEqProofs only [evr, id, reduceCtorEq, reduceIte, Nat.reduceMul, Nat.reduceAdd, Nat.reduceLT, Nat.reduceLeDiff, Nat.reduceEqDiff, Int.reduceLT, Int.reduceBEq, Int.reduceBNe, Nat.reduceBEq, due_one, List.cons_append, List.nil_append, sh1, due_0, due_1, due_2, planC, evn])
  intro b2
  (refine hk _ ?_; clear hk k; try show SatJ _ _ _ _ _ _ _)
  refine SatJ.adoptBox 0 0 36 3 (dueRd #[]) rfl rfl ?_
  simp -implicitDefEqProofs only [evr, id, reduceCtorEq, reduceIte, Nat.reduceMul, Nat.reduceAdd, Nat.reduceLT, Nat.reduceLeDiff, Nat.reduceEqDiff, Int.reduceLT, Int.reduceBEq, Int.reduceBNe, Nat.reduceBEq, due_one, List.cons_append, List.nil_append, sh1, due_0, due_1, due_2, planC, evn]
  (repeat refine SatJ.seq ?_)
  (refine SatJ.region_k fun k hk => ?_; simp -implicitDefEqProofs only [evr, id, reduceCtorEq, reduceIte, Nat.reduceMul, Nat.reduceAdd, Nat.reduceLT, Nat.reduceLeDiff, Nat.reduceEqDiff, Int.reduceLT, Int.reduceBEq, Int.reduceBNe, Nat.reduceBEq, due_one, List.cons_append, List.nil_append, sh1, due_0, due_1, due_2, planC, evn]; refine hk _ ?_; clear hk k; try show SatJ _ _ _ _ _ _ _)
  refine SatJ.block ?_
  refine SatJ.rangeFuncG [(2, .op 0 b2 0)] rfl Tryd.func40 rfl (by kernel_rfl) rfl (by simp -implicitDefEqProofs only [evr, id, reduceCtorEq, reduceIte, Nat.reduceMul, Nat.reduceAdd, Nat.reduceLT, Nat.reduceLeDiff, Nat.reduceEqDiff, Int.reduceLT, Int.reduceBEq, Int.reduceBNe, Nat.reduceBEq, due_one, List.cons_append, List.nil_append, sh1, due_0, due_1, due_2, planC, evl, evn]) ?_
  intro asg bo has hbo l D
  have hit0 := iter2 F p hn hok hb he L hL hat hlen (σ := BSt)
    (fun s => .box b2 32 [.os 1 s.a s.out.length s.cap]) (fun s => dueRow s.a s.out.length s.cap s.out.toArray)
    (fun pre s => s.out = pre)
    (fun pd pre s => False)
    l D 13 [(2, .op 0 b2 0)] 7 asg bo blk ⟨[], none, 0⟩ rfl
  rw [hS] at hit0
  refine (fun hy => ?_ : (_ → _)) (hit0 ?_)
  · obtain ⟨c, hc, hit⟩ := hy
    have hc2 := Option.some.inj hc
    subst hc2
    simp only [show List.range 1 = [0] from rfl, List.map_cons, List.map_nil, hrd, List.cons_append, List.nil_append]
    refine hit.mono ?_
    clear hit hit0 hc
    rintro e ds st' ⟨he1, rfl, hcase⟩
    unfold iterK
    refine ⟨he1, rfl, ?_⟩
    rcases hcase with ⟨s, tl, hs1, hown⟩ | ⟨s, tl, pre, pd, hff, _⟩
    · refine ⟨.ready, none, by decide, by rw [hown]; rfl, ?_⟩
      simp only [thenJ, blockJ, hown, dueRow, List.length_cons, List.length_nil, List.set_cons_succ, List.set_cons_zero, if_true]
      (repeat refine SatJ.seq ?_)
      (refine SatJ.region_k fun k hk => ?_; simp -implicitDefEqProofs only [evr, id, reduceCtorEq, reduceIte, Nat.reduceMul, Nat.reduceAdd, Nat.reduceLT, Nat.reduceLeDiff, Nat.reduceEqDiff, Int.reduceLT, Int.reduceBEq, Int.reduceBNe, Nat.reduceBEq, due_one, List.cons_append, List.nil_append, sh1, due_0, due_1, due_2, planC, evn]; refine hk _ ?_; clear hk k; try show SatJ _ _ _ _ _ _ _)
      refine SatJ.ret ?_
      refine ⟨.inr rfl, D, 2, rfl, rfl, ?_⟩
      simp only [Tryd.results39, evr, id, reduceCtorEq, reduceIte, Nat.reduceMul, Nat.reduceAdd, Nat.reduceLT, Nat.reduceLeDiff, Nat.reduceEqDiff, Int.reduceLT, Int.reduceBEq, Int.reduceBNe, Nat.reduceBEq, List.append_nil, Int.toNat_zero, Nat.sub_self, due_one, List.cons_append, List.nil_append, sh1, due_0, due_1, due_2, planC]
      rw [← hs1]
      exact ⟨s.a, s.cap, rfl⟩
    · exact hff.elim
  · intro pre d s kk n env x y dst hlt hs1 ht hf
    refine yieldK_of (i := 3) rfl (show 7 < 13 by decide) (plain_cons (fun _ _ => trivial) plain_nil) ?_
    refine SatJ.code has ?_
    simp only [dueAg, Due.cs, dueRow]
    (refine SatJ.region_k fun k hk => ?_; simp -implicitDefEqProofs only [evr, id, reduceCtorEq, reduceIte, Nat.reduceMul, Nat.reduceAdd, Nat.reduceLT, Nat.reduceLeDiff, Nat.reduceEqDiff, Int.reduceLT, Int.reduceBEq, Int.reduceBNe, Nat.reduceBEq, due_one, List.cons_append, List.nil_append, sh1, due_0, due_1, due_2, planC, evn])
    intro b8
    (refine hk _ ?_; clear hk k; try show SatJ _ _ _ _ _ _ _)
    refine ⟨rfl, rfl, ?_⟩
    refine SatJ.code hbo ?_
    simp only [List.set_cons_succ, List.set_cons_zero]
    refine SatJ.block ?_
    refine SatJ.post_le ?_
    have hlo : s.out.length ≤ 1000000 := by rw [hs1]; omega
    (refine SatJ.region_k fun k hk => ?_; simp -implicitDefEqProofs only [evr, id, reduceCtorEq, reduceIte, Nat.reduceMul, Nat.reduceAdd, Nat.reduceLT, Nat.reduceLeDiff, Nat.reduceEqDiff, Int.reduceLT, Int.reduceBEq, Int.reduceBNe, Nat.reduceBEq, due_one, List.cons_append, List.nil_append, sh1, due_0, due_1, due_2, planC, evn])
    intro blk2
    refine ⟨⟨by unfold maxLen; omega, by omega⟩, fun a2 cap2 => hk _ ?_⟩
    clear hk k
    simp only [thenJ, blockJ, jumpOf]
    refine ⟨⟨13, [], [.box b2 32 [.os 1 a2 (s.out ++ [d]).length cap2], dueRow a2 (s.out ++ [d]).length cap2 (s.out ++ [d]).toArray, .res D (defP D),
      recO l .busy none [(2, .op 0 b2 0)] 13 #[7] asg bo D, x, y, .box b8 36 (Due.cs d)]⟩,
      ⟨rfl, trivial, ⟨rfl, rfl, by simp⟩, ⟨rfl, rfl, by simp, rfl, rfl, due_app s.out d⟩, ole _, ole _, ole _, ole _, ole _, trivial⟩, rfl, ?_⟩
    exact ht ⟨s.out ++ [d], a2, cap2⟩ [_] (by rw [← hs1])
set_option maxRecDepth 100000 in
theorem collectC (F : Frm) (p : PlanP) (blk : Nat) (rd : Nat → SV) (hrd : rd 0 = .el ⟨blk, 0, none⟩ 3 fun j => (planC p).getD j default) (hn : p.ts.length ≤ 1000) (hok : ∀ t ∈ p.ts, tskOk t) (hb : 0 ≤ p.burst ∧ p.burst ≤ 65536) (he : 0 ≤ p.every ∧ p.every ≤ 1073741824)
    (L : List Due) (hL : ∀ L', Sched L' p.ts → L' = L) (hat : ∀ d ∈ L, 0 ≤ d.at_ ∧ d.at_ ≤ 1125899906842624) (hlen : L.length ≤ 1000000) :
    Contract F Tryd.prog 25 [.fn 40 1 rd] (fun r => ∃ a cap, r = .sl a (sentG p.burst p.every ⟨p.burst * p.every, 0⟩ L).length cap 3 (dueRd (sentG p.burst p.every ⟨p.burst * p.every, 0⟩ L).toArray)) := by
  refine contract_of Tryd.func25 rfl (by kernel_rfl) ?_
  simp only [Tryd.ntmps25, argEnv]
  (repeat refine Sat.seq ?_)
  (refine Sat.region_k fun k hk => ?_; simp -implicitDefEqProofs only [evr, id, reduceCtorEq, reduceIte, Nat.reduceMul, Nat.reduceAdd, Nat.reduceLT, Nat.reduceLeDiff, Nat.reduceEqDiff, Int.reduceLT, Int.reduceBEq, Int.reduceBNe, Nat.reduceBEq, due_one, List.cons_append, List.nil_append, sh1, due_0, due_1, due_2, planC, evn]; refine hk _ ?_; clear hk k; try show Sat _ _ _ _ _)
  (repeat refine Sat.seq ?_)
  (refine Sat.region_k fun k hk => ?_; simp -implicitDefEqProofs only [evr, id, reduceCtorEq, reduceIte, Nat.reduceMul, Nat.reduceAdd, Nat.reduceLT, Nat.reduceLeDiff, Nat.reduceEqDiff, Int.reduceLT, Int.reduceBEq, Int.reduceBNe, Nat.reduceBEq, due_one, List.cons_append, List.nil_append, sh1, due_0, due_1, due_2, planC, evn])
  refine wcall_slice (appSeqC F p blk rd hrd hn hok hb he L hL hat hlen) rfl rfl ?_
  rintro r ⟨a, cap, rfl⟩
  simp -implicitDefEqProofs only [evr, id, reduceCtorEq, reduceIte, Nat.reduceMul, Nat.reduceAdd, Nat.reduceLT, Nat.reduceLeDiff, Nat.reduceEqDiff, Int.reduceLT, Int.reduceBEq, Int.reduceBNe, Nat.reduceBEq, due_one, List.cons_append, List.nil_append, sh1, due_0, due_1, due_2, planC, evn]
  (refine hk _ ?_; clear hk k; try show Sat _ _ _ _ _)
  refine Sat.ret ?_
  simp only [Tryd.results25, evr, id, reduceCtorEq, reduceIte, Nat.reduceMul, Nat.reduceAdd, Nat.reduceLT, Nat.reduceLeDiff, Nat.reduceEqDiff, Int.reduceLT, Int.reduceBEq, Int.reduceBNe, Nat.reduceBEq, List.append_nil, Int.toNat_zero, Nat.sub_self, due_one, List.cons_append, List.nil_append, sh1, due_0, due_1, due_2, planC]
  exact ⟨a, cap, rfl⟩
set_option maxRecDepth 100000 in
theorem sentC (F : Frm) (p : PlanP) (hn : p.ts.length ≤ 1000) (hok : ∀ t ∈ p.ts, tskOk t) (hb : 0 ≤ p.burst ∧ p.burst ≤ 65536) (he : 0 ≤ p.every ∧ p.every ≤ 1073741824)
    (L : List Due) (hL : ∀ L', Sched L' p.ts → L' = L) (hat : ∀ d ∈ L, 0 ≤ d.at_ ∧ d.at_ ≤ 1125899906842624) (hlen : L.length ≤ 1000000) :
    Contract F Tryd.prog 8 [planS p] (fun r => ∃ a cap, r = .sl a (sentG p.burst p.every ⟨p.burst * p.every, 0⟩ L).length cap 3 (dueRd (sentG p.burst p.every ⟨p.burst * p.every, 0⟩ L).toArray)) := by
  refine contract_of Tryd.func8 rfl (by kernel_rfl) ?_
  simp only [Tryd.ntmps8, argEnv, planS, planC]
  (repeat refine Sat.seq ?_)
  (refine Sat.region_k fun k hk => ?_; simp -implicitDefEqProofs only [evr, id, reduceCtorEq, reduceIte, Nat.reduceMul, Nat.reduceAdd, Nat.reduceLT, Nat.reduceLeDiff, Nat.reduceEqDiff, Int.reduceLT, Int.reduceBEq, Int.reduceBNe, Nat.reduceBEq, due_one, List.cons_append, List.nil_append, sh1, due_0, due_1, due_2, planC, evn])
  intro b1
  (refine hk _ ?_; clear hk k; try show Sat _ _ _ _ _)
  (repeat refine Sat.seq ?_)
  (refine Sat.region_k fun k hk => ?_; simp -implicitDefEqProofs only [evr, id, reduceCtorEq, reduceIte, Nat.reduceMul, Nat.reduceAdd, Nat.reduceLT, Nat.reduceLeDiff, Nat.reduceEqDiff, Int.reduceLT, Int.reduceBEq, Int.reduceBNe, Nat.reduceBEq, due_one, List.cons_append, List.nil_append, sh1, due_0, due_1, due_2, planC, evn])
  refine wcall_slice (allowedC F p) rfl rfl ?_
  rintro r ⟨blk, rd, rfl, hrd⟩
  simp -implicitDefEqProofs only [evr, id, reduceCtorEq, reduceIte, Nat.reduceMul, Nat.reduceAdd, Nat.reduceLT, Nat.reduceLeDiff, Nat.reduceEqDiff, Int.reduceLT, Int.reduceBEq, Int.reduceBNe, Nat.reduceBEq, due_one, List.cons_append, List.nil_append, sh1, due_0, due_1, due_2, planC, evn]
  refine wcall_slice (collectC F p blk rd hrd hn hok hb he L hL hat hlen) rfl rfl ?_
  rintro r ⟨a, cap, rfl⟩
  simp -implicitDefEqProofs only [evr, id, reduceCtorEq, reduceIte, Nat.reduceMul, Nat.reduceAdd, Nat.reduceLT, Nat.reduceLeDiff, Nat.reduceEqDiff, Int.reduceLT, Int.reduceBEq, Int.reduceBNe, Nat.reduceBEq, due_one, List.cons_append, List.nil_append, sh1, due_0, due_1, due_2, planC, evn]
  (refine hk _ ?_; clear hk k; try show Sat _ _ _ _ _)
  refine Sat.ret ?_
  simp only [Tryd.results8, evr, id, reduceCtorEq, reduceIte, Nat.reduceMul, Nat.reduceAdd, Nat.reduceLT, Nat.reduceLeDiff, Nat.reduceEqDiff, Int.reduceLT, Int.reduceBEq, Int.reduceBNe, Nat.reduceBEq, List.append_nil, Int.toNat_zero, Nat.sub_self, due_one, List.cons_append, List.nil_append, sh1, due_0, due_1, due_2, planC]
  exact ⟨a, cap, rfl⟩
end Go.Proofs.YtgimngpcfenoaaaDoor
