/- The probes that the limit allows: the iterator of schedule.allowed, by the evaluator. -/
import Derived.Test.YtgimngpcfenoaaaDoorPk3
import Derived.Test.YtgimngpcfenoaaaDoorBktE
set_option linter.unusedSimpArgs false
set_option linter.unusedVariables false
namespace Go.Proofs.YtgimngpcfenoaaaDoor
open Go.Sort Eng
theorem sh1 (x y z : SV) : (fun j => [x, y, z].getD (1 + j) default) = fun j => [y, z].getD j default := by
  funext j; rw [Nat.add_comm]; rfl
theorem due_0 (d : Array Due) (i : Nat) : dueRd d i 0 = .i .i64 d[i]!.task := rfl
theorem due_1 (d : Array Due) (i : Nat) : dueRd d i 1 = .i .i64 d[i]!.round := rfl
theorem due_2 (d : Array Due) (i : Nat) : dueRd d i 2 = .i .i64 d[i]!.at_ := rfl
theorem ole (o : Eng.Own) : o.le o := by cases o <;> simp [Own.le, rdEq, fnEq]
def tokG (b e : Int) : Tok → List Due → Tok
  | t, [] => t
  | t, d :: ds => tokG b e (takeF b e t d.at_).1 ds
def sentG (b e : Int) : Tok → List Due → List Due
  | _, [] => []
  | t, d :: ds => if (takeF b e t d.at_).2 = true then d :: sentG b e (takeF b e t d.at_).1 ds else sentG b e (takeF b e t d.at_).1 ds
theorem tokG_app (b e : Int) : ∀ (t : Tok) (xs : List Due) (d : Due), tokG b e t (xs ++ [d]) = (takeF b e (tokG b e t xs) d.at_).1
  | _, [], _ => rfl
  | t, x :: xs, d => tokG_app b e (takeF b e t x.at_).1 xs d
theorem sentG_app (b e : Int) : ∀ (t : Tok) (xs : List Due) (d : Due), sentG b e t (xs ++ [d]) = sentG b e t xs ++ (if (takeF b e (tokG b e t xs) d.at_).2 = true then [d] else [])
  | _, [], _ => by simp only [List.nil_append, sentG, tokG]; rfl
  | t, x :: xs, d => by
    have ih := sentG_app b e (takeF b e t x.at_).1 xs d
    simp only [List.cons_append, sentG, tokG]
    split
    · rw [ih, List.cons_append]; rfl
    · exact ih
theorem sentG_len (b e : Int) : ∀ (t : Tok) (xs : List Due), (sentG b e t xs).length ≤ xs.length
  | _, [] => Nat.le_refl _
  | t, x :: xs => by
    have ih := sentG_len b e (takeF b e t x.at_).1 xs
    simp only [sentG]
    split
    · simp only [List.length_cons]; omega
    · simp only [List.length_cons]; omega
theorem sentG_take (b e : Int) : ∀ (t : Tok) (k : Nat) (xs : List Due), ∃ rest, sentG b e t xs = sentG b e t (xs.take k) ++ rest
  | t, 0, xs => ⟨sentG b e t xs, by simp [sentG]⟩
  | t, k + 1, [] => ⟨[], by simp [sentG]⟩
  | t, k + 1, x :: xs => by
    obtain ⟨rest, h⟩ := sentG_take b e (takeF b e t x.at_).1 k xs
    refine ⟨rest, ?_⟩
    simp only [List.take_succ_cons, sentG, h]
    split
    · rw [List.cons_append]
    · rfl
theorem tokG_ok {b e : Int} (hb : 0 ≤ b ∧ b ≤ 65536) (he : 0 ≤ e ∧ e ≤ 1073741824) : ∀ (t : Tok) (xs : List Due), tokOk t → (∀ d ∈ xs, 0 ≤ d.at_ ∧ d.at_ ≤ 1125899906842624) → tokOk (tokG b e t xs)
  | _, [], ht, _ => ht
  | t, x :: xs, ht, h => tokG_ok hb he (takeF b e t x.at_).1 xs (takeF_ok hb he ht (h x (by simp))) fun d hd => h d (by simp [hd])
set_option maxRecDepth 100000 in
theorem iter5 {σ : Type} (F : Frm) (p : PlanP) (hn : p.ts.length ≤ 1000) (hok : ∀ t ∈ p.ts, tskOk t) (hb : 0 ≤ p.burst ∧ p.burst ≤ 65536) (he : 0 ≤ p.every ∧ p.every ≤ 1073741824)
    (L : List Due) (hL : ∀ L', Sched L' p.ts → L' = L) (hat : ∀ d ∈ L, 0 ≤ d.at_ ∧ d.at_ ≤ 1125899906842624) (hlen : L.length ≤ 1000000)
    (o0 o1 o2 o3 o4 : σ → Eng.Own) (I : List Due → σ → Prop) (X : Code → List Due → σ → Prop) (l D nC : Nat) (envR : List (Nat × SV)) (q : Tmp) (assign body : Code) (blk : Nat) (s0 : σ) (h0 : I [] s0)
    (hy : ∀ (pre : List Due) (d : Due) (s : σ) (k : St → Prop) (n : Nat) (env : List (Nat × SV)) (x y : Eng.Own) (dst : Option Tmp), pre.length < L.length → I pre s →
      (∀ s' tl', I (pre ++ [d]) s' → k ((⟨n, env, o0 s' :: o1 s' :: o2 s' :: o3 s' :: o4 s' :: .res D (defP D) :: recO l .ready none envR nC #[q] assign body D :: (x :: y :: tl')⟩ : St).put dst .tt)) →
      (∀ s' tl' pd, X pd (pre ++ [d]) s' → k ((⟨n, env, o0 s' :: o1 s' :: o2 s' :: o3 s' :: o4 s' :: .res D (defP D) :: recO l .done (some pd) envR nC #[q] assign body D :: (x :: y :: tl')⟩ : St).put dst .ff)) →
      YieldK Tryd.prog F l [dueAg d] ⟨n, env, o0 s :: o1 s :: o2 s :: o3 s :: o4 s :: .res D (defP D) :: recO l .ready none envR nC #[q] assign body D :: [x, y]⟩ dst k) :
    ∃ c, Tryd.f40.body = some c ∧ SatJ Tryd.prog F none c [] ⟨Tryd.f40.ntmps, argEnv 0 [.v (.func (.yield l) #[] #[]), .el ⟨blk, 0, none⟩ 3 fun j => (planC p).getD j default], o0 s0 :: o1 s0 :: o2 s0 :: o3 s0 :: o4 s0 :: .res D (defP D) :: recO l .ready none envR nC #[q] assign body D :: []⟩
      (fun e ds st' => (e = .normal ∨ e = .ret) ∧ ds = [] ∧ ((∃ s tl, I (sentG p.burst p.every ⟨p.burst * p.every, 0⟩ L) s ∧ st'.own = o0 s :: o1 s :: o2 s :: o3 s :: o4 s :: .res D (defP D) :: recO l .ready none envR nC #[q] assign body D :: tl) ∨
        (∃ s tl pre pd, X pd pre s ∧ (∃ rest, sentG p.burst p.every ⟨p.burst * p.every, 0⟩ L = pre ++ rest) ∧ st'.own = o0 s :: o1 s :: o2 s :: o3 s :: o4 s :: .res D (defP D) :: recO l .done (some pd) envR nC #[q] assign body D :: tl))) := by
  simp only [Tryd.ntmps40, argEnv, planC]
  refine ⟨_, rfl, ?_⟩
  (repeat refine SatJ.seq ?_)
  (refine SatJ.region_k fun k hk => ?_; simp -implicitDefEqProofs only [evr, id, reduceCtorEq, reduceIte, Nat.reduceMul, Nat.reduceAdd, Nat.reduceLT, Nat.reduceLeDiff, Nat.reduceEqDiff, Int.reduceLT, Int.reduceBEq, Int.reduceBNe, Nat.reduceBEq, due_one, List.cons_append, List.nil_append, sh1, due_0, due_1, due_2, evn])
  refine wcall_plain (fullC F p.burst p.every 0 hb he) rfl (by rintro _ rfl; exact ok_aggL (l := [SV.i .i64 _, .i .i64 _]) rfl) ?_
  rintro r rfl
  simp -implicitDefEqProofs only [evr, id, reduceCtorEq, reduceIte, Nat.reduceMul, Nat.reduceAdd, Nat.reduceLT, Nat.reduceLeDiff, Nat.reduceEqDiff, Int.reduceLT, Int.reduceBEq, Int.reduceBNe, Nat.reduceBEq, due_one, List.cons_append, List.nil_append, sh1, due_0, due_1, due_2, tokS, tokL, evn]
  intro b3
  (refine hk _ ?_; clear hk k; try show SatJ _ _ _ _ _ _ _)
  (repeat refine SatJ.seq ?_)
  (refine SatJ.region_k fun k hk => ?_; simp -implicitDefEqProofs only [evr, id, reduceCtorEq, reduceIte, Nat.reduceMul, Nat.reduceAdd, Nat.reduceLT, Nat.reduceLeDiff, Nat.reduceEqDiff, Int.reduceLT, Int.reduceBEq, Int.reduceBNe, Nat.reduceBEq, due_one, List.cons_append, List.nil_append, sh1, due_0, due_1, due_2, evn])
  refine wcall_slice (allDueC F p hn hok) rfl rfl ?_
  rintro r ⟨a, cap, L', hS, rfl⟩
  obtain rfl := hL _ hS
  simp -implicitDefEqProofs only [evr, id, reduceCtorEq, reduceIte, Nat.reduceMul, Nat.reduceAdd, Nat.reduceLT, Nat.reduceLeDiff, Nat.reduceEqDiff, Int.reduceLT, Int.reduceBEq, Int.reduceBNe, Nat.reduceBEq, due_one, List.cons_append, List.nil_append, sh1, due_0, due_1, due_2, evn]
  (refine hk _ ?_; clear hk k; try show SatJ _ _ _ _ _ _ _)
  refine SatJ.block ?_
  refine SatJ.loop (ι := Nat × σ) (fun x => ⟨34, [(13, .i .i64 x.1), (12, .i .i64 L'.length), (11, .sl a L'.length cap 3 (dueRd L'.toArray)), (3, .op 7 b3 0), (0, .v (.func (.yield l) #[] #[])), (1, .el ⟨blk, 0, none⟩ 3 fun j => [.sl p.a p.ts.length p.cap 7 (tskRd p.ts), .i .i64 p.burst, .i .i64 p.every].getD j default)],
      o0 x.2 :: o1 x.2 :: o2 x.2 :: o3 x.2 :: o4 x.2 :: .res D (defP D) :: recO l .ready none envR nC #[q] assign body D :: [.box b3 75 (tokL (tokG p.burst p.every ⟨p.burst * p.every, 0⟩ (L'.take x.1)))]⟩)
    (fun x => x.1 ≤ L'.length ∧ I (sentG p.burst p.every ⟨p.burst * p.every, 0⟩ (L'.take x.1)) x.2) (fun x => L'.length - x.1) (0, s0) ⟨Nat.zero_le _, h0⟩ (by
      simp only [List.take_zero, tokG, tokL]
      simp -implicitDefEqProofs only [evr, id, reduceCtorEq, reduceIte, Nat.reduceMul, Nat.reduceAdd, Nat.reduceLT, Nat.reduceLeDiff, Nat.reduceEqDiff, Int.reduceLT, Int.reduceBEq, Int.reduceBNe, Nat.reduceBEq, due_one, List.cons_append, List.nil_append, sh1, due_0, due_1, due_2, evl, evn]
      exact ⟨rfl, ole _, ole _, ole _, ole _, ole _⟩) ?_
  rintro ⟨i, s⟩ ⟨hi, hI⟩
  simp only [tokL] at hi hI ⊢
  (repeat refine SatJ.seq ?_)
  (refine SatJ.region_k fun k hk => ?_; simp -implicitDefEqProofs only [evr, id, reduceCtorEq, reduceIte, Nat.reduceMul, Nat.reduceAdd, Nat.reduceLT, Nat.reduceLeDiff, Nat.reduceEqDiff, Int.reduceLT, Int.reduceBEq, Int.reduceBNe, Nat.reduceBEq, due_one, List.cons_append, List.nil_append, sh1, due_0, due_1, due_2, evn]; refine hk _ ?_; clear hk k; try show SatJ _ _ _ _ _ _ _)
  (repeat refine SatJ.seq ?_)
  refine SatJ.cond_b rfl (fun h => ?_) (fun h => ?_)
  · have h1 : i < L'.length := by simp only [decide_eq_true_eq] at h; omega
    have e3 : IntKind.i64.wrap ((i : Int) + 1) = ((i + 1 : Nat) : Int) := by rw [w64 (by omega)]; omega
    have hdi : L'.toArray[i]! = L'[i] := by simp [getElem!_def, h1]
    have hmem : L'[i] ∈ L' := List.getElem_mem _
    have htk : L'.take (i + 1) = L'.take i ++ [L'[i]] := by rw [List.take_add_one, List.getElem?_eq_getElem h1]; rfl
    have hT := tokG_ok hb he ⟨p.burst * p.every, 0⟩ (L'.take i) (by
      have h0 : 0 ≤ p.burst * p.every := Int.mul_nonneg hb.1 he.1
      have h1 : p.burst * p.every ≤ 65536 * 1073741824 := Int.mul_le_mul hb.2 he.2 he.1 (by decide)
      exact ⟨h0, by dsimp only; omega, (show (0 : Int) ≤ 0 by decide), (show (0 : Int) ≤ 1125899906842624 by decide)⟩) (fun d hd => hat d (List.mem_of_mem_take hd))
    have htok := tokG_app p.burst p.every ⟨p.burst * p.every, 0⟩ (L'.take i) L'[i]
    have hsnt := sentG_app p.burst p.every ⟨p.burst * p.every, 0⟩ (L'.take i) L'[i]
    obtain ⟨rest, hrest⟩ := sentG_take p.burst p.every ⟨p.burst * p.every, 0⟩ (i + 1) L'
    rw [← htk] at htok hsnt
    rw [hsnt] at hrest
    have hpl : (sentG p.burst p.every ⟨p.burst * p.every, 0⟩ (L'.take i)).length < L'.length := by
      have := sentG_len p.burst p.every ⟨p.burst * p.every, 0⟩ (L'.take i)
      rw [List.length_take] at this
      omega
    have hda := hat _ hmem
    generalize L'[i] = d at hdi hmem htok hsnt hda hrest
    generalize sentG p.burst p.every ⟨p.burst * p.every, 0⟩ (L'.take i) = pre at hI hsnt hpl hrest
    generalize tokG p.burst p.every ⟨p.burst * p.every, 0⟩ (L'.take i) = T at hT htok hsnt hrest ⊢
    refine SatJ.skip ?_
    simp only [thenJ]
    (repeat refine SatJ.seq ?_)
    refine SatJ.block ?_
    (repeat refine SatJ.seq ?_)
    (refine SatJ.region_k fun k hk => ?_; simp -implicitDefEqProofs only [evr, id, reduceCtorEq, reduceIte, Nat.reduceMul, Nat.reduceAdd, Nat.reduceLT, Nat.reduceLeDiff, Nat.reduceEqDiff, Int.reduceLT, Int.reduceBEq, Int.reduceBNe, Nat.reduceBEq, due_one, List.cons_append, List.nil_append, sh1, due_0, due_1, due_2, evn])
    refine ⟨by omega, ?_⟩
    simp only [hdi]
    intro b5
    (refine hk _ ?_; clear hk k; try show SatJ _ _ _ _ _ _ _)
    (repeat refine SatJ.seq ?_)
    (refine SatJ.region_k fun k hk => ?_; simp -implicitDefEqProofs only [evr, id, reduceCtorEq, reduceIte, Nat.reduceMul, Nat.reduceAdd, Nat.reduceLT, Nat.reduceLeDiff, Nat.reduceEqDiff, Int.reduceLT, Int.reduceBEq, Int.reduceBNe, Nat.reduceBEq, due_one, List.cons_append, List.nil_append, sh1, due_0, due_1, due_2, evn]; refine hk _ ?_; clear hk k; try show SatJ _ _ _ _ _ _ _)
    (repeat refine SatJ.seq ?_)
    (refine SatJ.region_k fun k hk => ?_; simp -implicitDefEqProofs only [evr, id, reduceCtorEq, reduceIte, Nat.reduceMul, Nat.reduceAdd, Nat.reduceLT, Nat.reduceLeDiff, Nat.reduceEqDiff, Int.reduceLT, Int.reduceBEq, Int.reduceBNe, Nat.reduceBEq, due_one, List.cons_append, List.nil_append, sh1, due_0, due_1, due_2, evn])
    refine wcall_plain (takeC F p.burst p.every T d.at_ hb he hT hda) rfl (by rintro _ rfl; intro R w j hj; rcases (show j = 0 ∨ j = 1 by omega) with rfl | rfl; exact ok_aggL (l := [SV.i .i64 _, .i .i64 _]) rfl R w; trivial) ?_
    rintro r rfl
    simp -implicitDefEqProofs only [evr, id, reduceCtorEq, reduceIte, Nat.reduceMul, Nat.reduceAdd, Nat.reduceLT, Nat.reduceLeDiff, Nat.reduceEqDiff, Int.reduceLT, Int.reduceBEq, Int.reduceBNe, Nat.reduceBEq, due_one, List.cons_append, List.nil_append, sh1, due_0, due_1, due_2, tokS, tokL, evn]
    (refine hk _ ?_; clear hk k; try show SatJ _ _ _ _ _ _ _)
    generalize hB : (takeF p.burst p.every T d.at_).2 = B at hsnt hrest ⊢
    generalize (takeF p.burst p.every T d.at_).1 = T2 at htok ⊢
    (repeat refine SatJ.seq ?_)
    refine SatJ.region_wl fun k hk => ?_
    refine WL.wo [_, _] [_, _, _, _, _] ?_
    simp -implicitDefEqProofs only [evr, id, reduceCtorEq, reduceIte, Nat.reduceMul, Nat.reduceAdd, Nat.reduceLT, Nat.reduceLeDiff, Nat.reduceEqDiff, Int.reduceLT, Int.reduceBEq, Int.reduceBNe, Nat.reduceBEq, due_one, List.cons_append, List.nil_append, sh1, due_0, due_1, due_2, List.toList_toArray, evn]
    refine WL.know (t := 27) (x := B) rfl (fun h2 => ?_) (fun h2 => ?_)
    · refine WL.wo [_, _] [_, _, _] ?_
      simp -implicitDefEqProofs only [evr, id, reduceCtorEq, reduceIte, Nat.reduceMul, Nat.reduceAdd, Nat.reduceLT, Nat.reduceLeDiff, Nat.reduceEqDiff, Int.reduceLT, Int.reduceBEq, Int.reduceBNe, Nat.reduceBEq, due_one, List.cons_append, List.nil_append, sh1, due_0, due_1, due_2, List.toList_toArray, evn]
      refine WL.yield (j := 1) (t := 27) rfl rfl rfl (show 30 < 34 by decide) (stepY_mk rfl ?_)
      refine hy pre d s _ _ _ _ _ _ hpl hI (fun s' tl' hI' => ?_) (fun s' tl' pd hX => ?_)
      · refine WL.wo [_, _] [] ?_
        simp -implicitDefEqProofs only [evr, id, reduceCtorEq, reduceIte, Nat.reduceMul, Nat.reduceAdd, Nat.reduceLT, Nat.reduceLeDiff, Nat.reduceEqDiff, Int.reduceLT, Int.reduceBEq, Int.reduceBNe, Nat.reduceBEq, due_one, List.cons_append, List.nil_append, sh1, due_0, due_1, due_2, List.toList_toArray, evn]
        refine WL.nil (hk _ ?_)
        clear hk k
        refine SatJ.cond_ff rfl ?_
        refine SatJ.skip ?_
        simp only [thenJ, blockJ]
        refine SatJ.region_k fun k hk => ?_
        simp -implicitDefEqProofs only [evr, id, reduceCtorEq, reduceIte, Nat.reduceMul, Nat.reduceAdd, Nat.reduceLT, Nat.reduceLeDiff, Nat.reduceEqDiff, Int.reduceLT, Int.reduceBEq, Int.reduceBNe, Nat.reduceBEq, due_one, List.cons_append, List.nil_append, sh1, due_0, due_1, due_2, e3, evn]
        refine hk _ ?_
        clear hk k
        simp only [thenJ, blockJ]
        refine ⟨trivial, (i + 1, s'), ⟨by simp only; omega, by simp only [hsnt, h2, if_true]; exact hI'⟩, by simp only; omega, ?_⟩
        simp only [htok, tokL]
        simp -implicitDefEqProofs only [evr, id, reduceCtorEq, reduceIte, Nat.reduceMul, Nat.reduceAdd, Nat.reduceLT, Nat.reduceLeDiff, Nat.reduceEqDiff, Int.reduceLT, Int.reduceBEq, Int.reduceBNe, Nat.reduceBEq, due_one, List.cons_append, List.nil_append, sh1, due_0, due_1, due_2, evl, evn]
        exact ⟨ole _, ole _, ole _, ole _, ole _⟩
      · refine WL.wo [_, _] [] ?_
        simp -implicitDefEqProofs only [evr, id, reduceCtorEq, reduceIte, Nat.reduceMul, Nat.reduceAdd, Nat.reduceLT, Nat.reduceLeDiff, Nat.reduceEqDiff, Int.reduceLT, Int.reduceBEq, Int.reduceBNe, Nat.reduceBEq, due_one, List.cons_append, List.nil_append, sh1, due_0, due_1, due_2, List.toList_toArray, evn]
        refine WL.nil (hk _ ?_)
        clear hk k
        refine SatJ.cond_tt rfl ?_
        refine SatJ.ret ?_
        simp only [thenJ, blockJ]
        exact ⟨.inr trivial, trivial, .inr ⟨s', _, _, pd, hX, ⟨rest, by rw [hrest, h2, if_pos rfl]⟩, rfl⟩⟩
    · refine WL.wo [_, _, _, _, _] [] ?_
      simp -implicitDefEqProofs only [evr, id, reduceCtorEq, reduceIte, Nat.reduceMul, Nat.reduceAdd, Nat.reduceLT, Nat.reduceLeDiff, Nat.reduceEqDiff, Int.reduceLT, Int.reduceBEq, Int.reduceBNe, Nat.reduceBEq, due_one, List.cons_append, List.nil_append, sh1, due_0, due_1, due_2, List.toList_toArray, evn]
      refine WL.nil (hk _ ?_)
      clear hk k
      refine SatJ.cond_ff rfl ?_
      refine SatJ.skip ?_
      simp only [thenJ, blockJ]
      refine SatJ.region_k fun k hk => ?_
      simp -implicitDefEqProofs only [evr, id, reduceCtorEq, reduceIte, Nat.reduceMul, Nat.reduceAdd, Nat.reduceLT, Nat.reduceLeDiff, Nat.reduceEqDiff, Int.reduceLT, Int.reduceBEq, Int.reduceBNe, Nat.reduceBEq, due_one, List.cons_append, List.nil_append, sh1, due_0, due_1, due_2, e3, evn]
      refine hk _ ?_
      clear hk k
      simp only [thenJ, blockJ]
      refine ⟨trivial, (i + 1, s), ⟨by simp only; omega, by simp only [hsnt, h2, Bool.false_eq_true, if_false, List.append_nil]; exact hI⟩, by simp only; omega, ?_⟩
      simp only [htok, tokL]
      simp -implicitDefEqProofs only [evr, id, reduceCtorEq, reduceIte, Nat.reduceMul, Nat.reduceAdd, Nat.reduceLT, Nat.reduceLeDiff, Nat.reduceEqDiff, Int.reduceLT, Int.reduceBEq, Int.reduceBNe, Nat.reduceBEq, due_one, List.cons_append, List.nil_append, sh1, due_0, due_1, due_2, evl, evn]
      exact ⟨ole _, ole _, ole _, ole _, ole _⟩
  · have h1 : i = L'.length := by simp only [decide_eq_false_iff_not] at h; omega
    subst h1
    rw [List.take_length] at hI
    refine SatJ.exit ?_
    simp only [thenJ, blockJ, reduceIte]
    exact ⟨.inl trivial, trivial, .inl ⟨s, _, hI, rfl⟩⟩
end Go.Proofs.YtgimngpcfenoaaaDoor
