/- The evaluator, part K: code; regions that draw their order; a function's contract out of its body. -/
import Derived.Test.YtpkmnggfomllhaaDoorEngJ
import Derived.Scope
import Derived.Deep.LoopGhost
set_option linter.unusedSimpArgs false
set_option linter.unusedVariables false
namespace Go.Proofs.YtpkmnggfomllhaaDoor
namespace Eng
def Sat (P : Program) (F : Frm) (c : Code) (st : St) (K : Exit → St → Prop) : Prop :=
  ∀ (R0 : Nat → Prop) (w0 : Org) (a : Act) (w : World), Rel F R0 w0 st a w → c.wp P (fun e a' w' => ∃ st', K e st' ∧ Rel F R0 w0 st' a' w') a w
def thenK (next : St → Prop) (K : Exit → St → Prop) : Exit → St → Prop
  | .normal, st => next st
  | e, st => K e st
def blockK (id : Nat) (K : Exit → St → Prop) : Exit → St → Prop
  | .exit id', st => if id' = id then K .normal st else K (.exit id') st
  | e, st => K e st
section
variable {P : Program} {F : Frm} {st : St} {K : Exit → St → Prop}
theorem Sat.mono {c : Code} {K' : Exit → St → Prop} (h : Sat P F c st K) (hk : ∀ e st, K e st → K' e st) : Sat P F c st K' :=
  fun R0 w0 a w hr => wp_mono (h R0 w0 a w hr) fun e a' w' ⟨st', h1, h2⟩ => ⟨st', hk e st' h1, h2⟩
theorem Sat.skip (h : K .normal st) : Sat P F .skip st K := fun R0 w0 a w hr => wp_skip ⟨st, h, hr⟩
theorem Sat.label {l : Nat} (h : K .normal st) : Sat P F (.label l) st K := fun R0 w0 a w hr => wp_label ⟨st, h, hr⟩
theorem Sat.exit {id : Nat} (h : K (.exit id) st) : Sat P F (.exit id) st K := fun R0 w0 a w hr => wp_exit ⟨st, h, hr⟩
theorem Sat.ret (h : K .ret st) : Sat P F .ret st K := fun R0 w0 a w hr => wp_ret ⟨st, h, hr⟩
theorem Sat.seq {x y : Code} (h : Sat P F x st (thenK (fun st' => Sat P F y st' K) K)) : Sat P F (.seq x y) st K := by
  intro R0 w0 a w hr
  refine wp_seq (wp_mono (h R0 w0 a w hr) ?_)
  rintro e a' w' ⟨st', hk, hr'⟩
  cases e with
  | normal => exact hk R0 w0 a' w' hr'
  | _ => exact ⟨st', hk, hr'⟩
theorem Sat.block {id : Nat} {c : Code} (h : Sat P F c st (blockK id K)) : Sat P F (.block id c) st K := by
  intro R0 w0 a w hr
  refine wp_block (wp_mono (h R0 w0 a w hr) ?_)
  rintro e a' w' ⟨st', hk, hr'⟩
  cases e with
  | exit id' =>
    simp only [blockK] at hk
    simp only [Exit.inBlock]
    split at hk
    · rename_i e; rw [if_pos e]; exact ⟨st', hk, hr'⟩
    · rename_i e; rw [if_neg e]; exact ⟨st', hk, hr'⟩
  | _ => exact ⟨st', hk, hr'⟩
theorem Sat.cond_tt {c : Operand} {x y : Code} (hc : ev st.env c = some .tt) (h : Sat P F x st K) : Sat P F (.cond c x y) st K := by
  rintro R0 w0 a w ⟨ob, R, hr⟩
  exact wp_cond_true (ev_ok hr.env hc).1 (h R0 w0 a w ⟨ob, R, hr⟩)
theorem Sat.cond_ff {c : Operand} {x y : Code} (hc : ev st.env c = some .ff) (h : Sat P F y st K) : Sat P F (.cond c x y) st K := by
  rintro R0 w0 a w ⟨ob, R, hr⟩
  exact wp_cond_false (ev_ok hr.env hc).1 (h R0 w0 a w ⟨ob, R, hr⟩)
theorem Sat.cond_b {c : Operand} {x y : Code} {b : Bool} (hc : ev st.env c = some (.b b)) (ht : b = true → Sat P F x st K) (hf : b = false → Sat P F y st K) : Sat P F (.cond c x y) st K := by
  rintro R0 w0 a w ⟨ob, R, hr⟩
  have := (ev_ok hr.env hc).1
  exact wp_cond_split this (fun h => ht h R0 w0 a w ⟨ob, R, hr⟩) (fun h => hf h R0 w0 a w ⟨ob, R, hr⟩)
/-! ### Less may be known -/
def rdEq (len sz : Nat) (rd rd' : Nat → Nat → SV) : Prop := ∀ i j, i < len → j < sz → rd i j = rd' i j
def fnEq (f f' : List Int → Option Int) : Prop := ∀ l, f l = f' l
def Own.le : Own → Own → Prop
  | .row a e len cap sz rd, .row a' e' len' cap' sz' rd' => a = a' ∧ e = e' ∧ len = len' ∧ cap = cap' ∧ sz = sz' ∧ rdEq len sz rd rd'
  | .box b t cs, .box b' t' cs' => b = b' ∧ t = t' ∧ cs = cs'
  | .frz a len cap sz rd, .frz a' len' cap' sz' rd' => a = a' ∧ len = len' ∧ cap = cap' ∧ sz = sz' ∧ rdEq len sz rd rd'
  | .res b p, .res b' p' => b = b' ∧ p = p'
  | .mp b sc ks vk f, .mp b' sc' ks' vk' f' => b = b' ∧ sc = sc' ∧ ks = ks' ∧ vk = vk' ∧ fnEq f f'
  | _, .gone => True
  | _, _ => False
def ownLe : List Own → List Own → Prop
  | _, [] => True
  | o :: os, p :: ps => o.le p ∧ ownLe os ps
  | [], _ :: _ => False
def envLe (env : List (Nat × SV)) : List (Nat × SV) → Prop
  | [] => True
  | (t, s) :: l => (look env t = some s ∨ ∃ b, (look env t).bind toB = some b ∧ toB s = some b) ∧ envLe env l
def Le (st st' : St) : Prop := st'.n = st.n ∧ envLe st.env st'.env ∧ ownLe st.own st'.own
theorem toB_ok {s : SV} {b : Bool} (h : toB s = some b) (R : Nat → Prop) (w : World) : s.ok R w := by cases s <;> first | trivial | cases h
theorem envLe_ok {R : Nat → Prop} {a : Act} {w : World} {env : List (Nat × SV)} (he : EnvOk R env a w) : ∀ {l : List (Nat × SV)}, envLe env l → EnvOk R l a w
  | [], _, t, s, h => by cases h
  | (u, x) :: l, ⟨h1, h2⟩, t, s, h => by
    simp only [look] at h
    split at h
    · rename_i e
      subst e
      simp only [Option.some.injEq] at h
      subst h
      rcases h1 with h1 | ⟨b, hb, hx⟩
      · exact he _ _ h1
      · cases hl : look env u with
        | none => rw [hl] at hb; cases hb
        | some y =>
          rw [hl] at hb
          have hy : toB y = some b := hb
          have := he _ _ hl
          exact ⟨by rw [this.1, toB_den hy, toB_den hx], toB_ok hx R w⟩
    · exact envLe_ok he h2 t s h
theorem cellsOf_eq {len sz : Nat} {rd rd' : Nat → Nat → SV} (h : rdEq len sz rd rd') : cellsOf len sz rd = cellsOf len sz rd' := by
  unfold cellsOf
  apply List.map_congr_left
  intro q hq
  have hq' : q < len * sz := by simpa using hq
  have hz : 0 < sz := by
    rcases Nat.eq_zero_or_pos sz with h0 | h0
    · subst h0; simp at hq'
    · exact h0
  rw [h _ _ ((Nat.div_lt_iff_lt_mul hz).2 hq') (Nat.mod_lt _ hz)]
theorem Own.ok_le {R : Nat → Prop} {B : Nat} {w : World} {o p : Own} (h : o.ok R B w) (hl : o.le p) : p.ok R B w ∧ ∀ b, p.blk = some b → o.blk = some b := by
  unfold Own.le at hl
  split at hl
  · obtain ⟨rfl, rfl, rfl, rfl, rfl, hrd⟩ := hl
    obtain ⟨h1, h2, h3⟩ := h
    exact ⟨⟨by rw [← cellsOf_eq hrd]; exact h1, h2, fun i j hi hj => by rw [← hrd i j hi hj]; exact h3 i j hi hj⟩, fun b hb => by cases ‹Option Addr› <;> exact hb⟩
  · obtain ⟨rfl, rfl, rfl⟩ := hl; exact ⟨h, fun _ h => h⟩
  · obtain ⟨rfl, rfl, rfl, rfl, hrd⟩ := hl
    refine ⟨?_, fun _ h => by cases h⟩
    obtain ⟨h1, h2, h3⟩ := h
    refine ⟨h1, h2, ?_⟩
    rcases h3 with h3 | ⟨blk, off, ha, hR, hc⟩
    · exact .inl h3
    · exact .inr ⟨blk, off, ha, hR, fun i j hi hj => by rw [← hrd i j hi hj]; exact hc i j hi hj⟩
  · obtain ⟨rfl, rfl⟩ := hl; exact ⟨h, fun _ h => h⟩
  · obtain ⟨rfl, rfl, rfl, rfl, hf⟩ := hl
    obtain ⟨h1, h2, es, clock, h3, L, h4, h5, h6⟩ := h
    exact ⟨⟨h1, h2, es, clock, h3, L, h4, h5, fun l hl => (hf l).symm.trans (h6 l hl)⟩, fun _ h => h⟩
  · exact ⟨trivial, fun _ h => by cases h⟩
  · exact hl.elim
theorem ownLe_get : ∀ {l l' : List Own}, ownLe l l' → ∀ (i : Nat) (p : Own), l'[i]? = some p → ∃ o, l[i]? = some o ∧ o.le p
  | l, [], _, i, p, h => by simp at h
  | [], _ :: _, hl, _, _, _ => hl.elim
  | o :: os, q :: ps, hl, i, p, h => by
    cases i with
    | zero => simp only [List.getElem?_cons_zero, Option.some.injEq] at h; subst h; exact ⟨o, rfl, hl.1⟩
    | succ i => exact ownLe_get hl.2 i p h
theorem Rel.le {R0 : Nat → Prop} {w0 : Org} {w : World} {a : Act} {st' : St} (h : Rel F R0 w0 st a w) (hl : Le st st') : Rel F R0 w0 st' a w := by
  obtain ⟨ob, R, hr⟩ := h
  obtain ⟨hn, he, ho⟩ := hl
  refine ⟨ob, R, hr.defers, envLe_ok hr.env he, by rw [hn]; exact hr.size, ?_, ?_, hr.evo, hr.inv, hr.obM, ?_, hr.obw, hr.rr, hr.r0⟩
  · intro i p hp
    obtain ⟨o, h1, h2⟩ := ownLe_get ho i p hp
    exact (Own.ok_le (hr.own i o h1) h2).1
  · intro i j o1 o2 hij h1 h2 b hb1 hb2
    obtain ⟨p1, g1, l1⟩ := ownLe_get ho i o1 h1
    obtain ⟨p2, g2, l2⟩ := ownLe_get ho j o2 h2
    exact hr.dist i j p1 p2 hij g1 g2 b ((Own.ok_le (hr.own i p1 g1) l1).2 b hb1) ((Own.ok_le (hr.own j p2 g2) l2).2 b hb2)
  · intro i p hp b hb
    obtain ⟨o, h1, h2⟩ := ownLe_get ho i p hp
    exact hr.gb i o h1 b ((Own.ok_le (hr.own i o h1) h2).2 b hb)
theorem Sat.le {c : Code} {st' : St} (h : Sat P F c st' K) (hl : Le st st') : Sat P F c st K := fun R0 w0 a w hr => h R0 w0 a w (hr.le hl)
theorem Sat.loop {c : Code} {ι : Type} (sh : ι → St) (I : ι → Prop) (μ : ι → Nat) (x0 : ι) (h0 : I x0) (hl : Le st (sh x0))
    (h : ∀ x, I x → Sat P F c (sh x) (thenK (fun st' => ∃ y, I y ∧ μ y < μ x ∧ Le st' (sh y)) K)) : Sat P F (.loop c) st K := by
  intro R0 w0 a w hr
  refine wp_loop_ghost (fun n a' w' => ∃ y, I y ∧ μ y = n ∧ Rel F R0 w0 (sh y) a' w') (μ x0) ⟨x0, h0, rfl, hr.le hl⟩ ?_
  rintro n a' w' ⟨y, hy, rfl, hry⟩
  refine wp_mono (h y hy R0 w0 a' w' hry) ?_
  rintro e a2 w2 ⟨st', hk, hr2⟩
  cases e with
  | normal =>
    obtain ⟨z, hz, hlt, hle⟩ := hk
    exact ⟨μ z, hlt, z, hz, rfl, hr2.le hle⟩
  | _ => exact ⟨st', hk, hr2⟩
theorem Sat.seq_to {x y : Code} {ι : Type} (sh : ι → St) (J : ι → Prop) (h : Sat P F x st (thenK (fun st' => ∃ z, J z ∧ Le st' (sh z)) K)) (h2 : ∀ z, J z → Sat P F y (sh z) K) : Sat P F (.seq x y) st K :=
  Sat.seq (h.mono fun e st' hk => by
    cases e with
    | normal => obtain ⟨z, hz, hl⟩ := hk; exact (h2 z hz).le hl
    | _ => exact hk)
theorem Sat.seq_at {x y : Code} (st2 : St) (h : Sat P F x st (thenK (fun st' => Le st' st2) K)) (h2 : Sat P F y st2 K) : Sat P F (.seq x y) st K :=
  Sat.seq (h.mono fun e st' hk => by
    cases e with
    | normal => exact h2.le hk
    | _ => exact hk)
/-! ### Regions -/
theorem Sat.region {id : Nat} {l : List Oper} (h : WO P F (l.map (·.dst)) l st (K .normal)) : Sat P F (.region id l.toArray false) st K := by
  intro R0 w0 a w hr
  refine wp_region_lit ?_
  exact wo_sound (ops := l.toArray) (k := K .normal) l st a w (by simpa using h) hr fun st' a' w' hk hr' => ⟨st', hk, hr'⟩
def CallQ (P : Program) (st : St) (f : FuncId) (args : List SV) (k : SV → Prop) : Prop :=
  ∃ r, Contract Frm.nil P f (args.map (roArg st.own)) (fun s => s = r) ∧ (∀ R w, r.ok R w) ∧ k r
def stepQ (P : Program) (st : St) (op : Op) (k : SV → Prop) : Prop :=
  match op with
  | .call { callee := .value (.func f), args := args, argTypes := _ } => (match evs st.env args.toList with
    | some l => CallQ P st f l k
    | none => False)
  | .call { callee := .value (.tmp t), args := args, argTypes := _ } => (match look st.env t, evs st.env args.toList with
    | some (.fn f n rd), some l => CallQ P st f (l ++ (List.range n).map rd) k
    | _, _ => False)
  | op => (rOp P st op).holds k
def WQ (P : Program) (ds : List (Option Tmp)) : List Oper → St → (St → Prop) → Prop
  | [], st, k => k st
  | o :: rest, st, k =>
    match o.guard with
    | none => dstOk st o.dst ∧ stepQ P st o.op fun s => WQ P ds rest (st.put o.dst s) k
    | some (j, want) => match (ds[j]?).bind id with
      | none => False
      | some t => match look st.env t with
        | some .tt => if want = true then dstOk st o.dst ∧ (stepQ P st o.op fun s => WQ P ds rest (st.put o.dst s) k) else dstOk st o.dst ∧ WQ P ds rest (st.put o.dst (.v undef)) k
        | some .ff => if want = false then dstOk st o.dst ∧ (stepQ P st o.op fun s => WQ P ds rest (st.put o.dst s) k) else dstOk st o.dst ∧ WQ P ds rest (st.put o.dst (.v undef)) k
        | some (.v (.tuple _)) => dstOk st o.dst ∧ WQ P ds rest (st.put o.dst (.v undef)) k
        | some (.b x) => t < st.n ∧ (x = true → if want = true then dstOk (st.put (some t) .tt) o.dst ∧ (stepQ P (st.put (some t) .tt) o.op fun s => WQ P ds rest ((st.put (some t) .tt).put o.dst s) k) else dstOk (st.put (some t) .tt) o.dst ∧ WQ P ds rest ((st.put (some t) .tt).put o.dst (.v undef)) k) ∧
            (x = false → if want = false then dstOk (st.put (some t) .ff) o.dst ∧ (stepQ P (st.put (some t) .ff) o.op fun s => WQ P ds rest ((st.put (some t) .ff).put o.dst s) k) else dstOk (st.put (some t) .ff) o.dst ∧ WQ P ds rest ((st.put (some t) .ff).put o.dst (.v undef)) k)
        | _ => False
def Grown (w w' : World) : Prop := Evo (fun _ => False) w w'
theorem RelR.grown {R0 R : Nat → Prop} {w0 : Org} {w w' : World} {ob : Nat} {a : Act} (h : RelR F R0 w0 ob R st a w) (hg : Grown w w') : RelR F R0 w0 ob R st a w' := by
  have hb : ∀ b, b < w.heap.size → w'.heap[b]? = w.heap[b]? := fun b hb => hg.block b hb (fun h => h)
  have := h.turn (own' := st.own) (R' := R) (w' := w') (fun _ => False) hg.os hg.tape hg.output hg.size (fun _ h => h.elim) (fun b hlt _ => hb b hlt) (fun _ h => h) (fun _ h => .inl h)
    (fun i o ho => Own.ok_keep (h.own i o ho) (fun _ h => h) (fun _ _ h => h) (fun b hr => hb b (h.rr b hr).1) (fun b hbx => hb b (Own.blk_lt (h.own i o ho) hbx).2.1)) h.dist h.gb
  exact this
theorem quietUpon_value {C : World → Prop} {w : World} {o : Oper} {a : Act} {v : Value} (h : (execOp a.eval o).run P w = .ok (.value v) w) : o.quietAt P a C w v := by
  unfold Oper.quietAt; rw [h]; exact ⟨rfl, rfl⟩
theorem stepQ_ok {op : Op} {k : SV → Prop} {dst : Option Tmp} (h : stepQ P st op k) {R0 R : Nat → Prop} {w0 : Org} {w : World} {ob : Nat} {a : Act} (hr : RelR F R0 w0 ob R st a w) (o : Oper) (ho : o.op = op) :
    ∃ s, k s ∧ s.ok R w ∧ ∀ w', Grown w w' → o.quietAt P a (Grown w) w' s.den := by
  unfold stepQ at h
  split at h
  · rename_i f args ts
    split at h
    · rename_i l he
      obtain ⟨r, hc, hrok, hk⟩ := h
      refine ⟨r, hk, hrok _ _, fun w' hg => ?_⟩
      have hr' := hr.grown hg
      obtain ⟨h1, h2⟩ := evs_ok hr'.env _ _ he
      have hargs : args.map a.eval = (l.map SV.den).toArray := by apply Array.ext'; rw [Array.toList_map]; exact h1
      have hrun : (execOp a.eval o).run P w' = .ok (.enter f (l.map SV.den).toArray) w' := by
        unfold execOp
        rw [ho]
        simp only [resolve, Act.eval, Deferred.ofValue, Sem.run_bind, Sem.run_pure, Result.andThen_ok, invoke, hargs]
        simp [hc.enters]
      have hden : (l.map (roArg st.own)).map SV.den = l.map SV.den := by
        rw [List.map_map]
        exact List.map_congr_left fun s hs => (roArg_ok hr' (h2 s hs)).1
      have hcall := hc.calls (withOwn st R) w' trivial (fun s hs => by obtain ⟨s', hs', rfl⟩ := List.mem_map.1 hs; exact (roArg_ok hr' (h2 s' hs')).2) (fun b hb => ⟨(withOwn_lt hr' b hb).1, fun h => h⟩)
      rw [hden] at hcall
      unfold Oper.quietAt
      rw [hrun]
      refine ⟨rfl, hcall.mono ?_⟩
      rintro e w'' ⟨r', rfl, rfl, _, hevo, _⟩
      exact ⟨rfl, hg.trans hevo⟩
    · exact h.elim
  · rename_i t args ts
    split at h
    · rename_i f n rd l hf he
      obtain ⟨r, hc, hrok, hk⟩ := h
      refine ⟨r, hk, hrok _ _, fun w' hg => ?_⟩
      have hr' := hr.grown hg
      obtain ⟨h1, h2⟩ := evs_ok hr'.env _ _ he
      have hfn := hr'.env t _ hf
      have h2' : ∀ s ∈ l ++ (List.range n).map rd, s.ok R w' := fun s hs => by
        rcases List.mem_append.1 hs with hs | hs
        · exact h2 s hs
        · obtain ⟨j, hj, rfl⟩ := List.mem_map.1 hs
          exact hfn.2 j (by simpa using hj)
      have hargs : args.map a.eval = (l.map SV.den).toArray := by apply Array.ext'; rw [Array.toList_map]; exact h1
      have hev : a.eval (.tmp t) = (SV.fn f n rd).den := by simp [Act.eval, hfn.1]
      have hrun : (execOp a.eval o).run P w' = .ok (.enter f ((l ++ (List.range n).map rd).map SV.den).toArray) w' := by
        unfold execOp
        rw [ho]
        simp only [resolve, hev, SV.den, Deferred.ofValue, Sem.run_bind, Sem.run_pure, Result.andThen_ok, invoke, hargs]
        simp [hc.enters, Function.comp_def]
      have hden : ((l ++ (List.range n).map rd).map (roArg st.own)).map SV.den = (l ++ (List.range n).map rd).map SV.den := by
        rw [List.map_map]
        exact List.map_congr_left fun s hs => (roArg_ok hr' (h2' s hs)).1
      have hcall := hc.calls (withOwn st R) w' trivial (fun s hs => by obtain ⟨s', hs', rfl⟩ := List.mem_map.1 hs; exact (roArg_ok hr' (h2' s' hs')).2) (fun b hb => ⟨(withOwn_lt hr' b hb).1, fun h => h⟩)
      rw [hden] at hcall
      unfold Oper.quietAt
      rw [hrun]
      refine ⟨rfl, hcall.mono ?_⟩
      rintro e w'' ⟨r', rfl, rfl, _, hevo, _⟩
      exact ⟨rfl, hg.trans hevo⟩
    · exact h.elim
  · obtain ⟨s, hk, hv⟩ := rOp_ok h
    obtain ⟨h1, _⟩ := hv R _ a w hr.env hr.own
    refine ⟨s, hk, h1, fun w' hg => ?_⟩
    have hr' := hr.grown hg
    exact quietUpon_value ((hv R _ a w' hr'.env hr'.own).2.1 o ho)
theorem wq_sound {ops : Array Oper} {k : St → Prop} {R0 : Nat → Prop} {w0 : Org} {w : World} {ob : Nat} {Q : Act → Prop} : ∀ (l : List Oper) (st : St) (a : Act) (R : Nat → Prop), WQ P (ops.toList.map (·.dst)) l st k → RelR F R0 w0 ob R st a w →
    (∀ st' a' R', k st' → RelR F R0 w0 ob R' st' a' w → Q a') → wpQuiet P ops (Grown w) Q l a
  | [], st, a, R, h, hr, hk => hk _ _ _ h hr
  | o :: rest, st, a, R, h, hr, hk => by
    have run : ∀ {st : St}, RelR F R0 w0 ob R st a w → dstOk st o.dst → (stepQ P st o.op fun s => WQ P (ops.toList.map (·.dst)) rest (st.put o.dst s) k) → o.quiet P a (Grown w) (wpQuiet P ops (Grown w) Q rest) := by
      intro st hr hd hs
      obtain ⟨s, hs, hok, hq⟩ := stepQ_ok (dst := o.dst) hs hr o rfl
      exact ⟨s.den, hq, wq_sound rest _ _ R hs (hr.put (dstOk_of hd) hok) hk⟩
    unfold WQ at h
    unfold wpQuiet
    split at h
    · rename_i hg
      rw [if_pos (by simp [Region.wanted, hg])]
      exact run hr h.1 h.2
    · rename_i j want hg
      split at h
      · exact h.elim
      · rename_i t hj
        split at h
        · rename_i hl
          have hy := yielded_dst (tmps := a.tmps) hj (hr.env t _ hl).1
          split at h
          · rename_i hw
            subst hw
            rw [if_pos (by simp [Region.wanted, hg, hy])]
            exact run hr h.1 h.2
          · rename_i hw
            have hwf : want = false := by simpa using hw
            subst hwf
            rw [if_neg (by simp [Region.wanted, hg, hy])]
            exact wq_sound rest _ _ R h.2 (hr.put (s := .v undef) (dstOk_of h.1) trivial) hk
        · rename_i hl
          have hy := yielded_dst (tmps := a.tmps) hj (hr.env t _ hl).1
          split at h
          · rename_i hw
            subst hw
            rw [if_pos (by simp [Region.wanted, hg, hy])]
            exact run hr h.1 h.2
          · rename_i hw
            have hwf : want = true := by simpa using hw
            subst hwf
            rw [if_neg (by simp [Region.wanted, hg, hy])]
            exact wq_sound rest _ _ R h.2 (hr.put (s := .v undef) (dstOk_of h.1) trivial) hk
        · rename_i vs hl
          have hy : yielded ops a.tmps j = none := yielded_none hj (hr.env t _ hl).1
          rw [if_neg (by simp [Region.wanted, hg, hy])]
          exact wq_sound rest _ _ R h.2 (hr.put (s := .v undef) (dstOk_of h.1) trivial) hk
        · rename_i x hl
          obtain ⟨_, ht, hf⟩ := h
          have hy := yielded_dst (tmps := a.tmps) hj (hr.env t _ hl).1
          cases x with
          | true =>
            have h := ht rfl
            have hr' := hr.know (s' := .tt) hl rfl (fun _ => trivial)
            split at h
            · rename_i hw
              subst hw
              rw [if_pos (by simp [Region.wanted, hg, hy])]
              exact run hr' h.1 h.2
            · rename_i hw
              have hwf : want = false := by simpa using hw
              subst hwf
              rw [if_neg (by simp [Region.wanted, hg, hy])]
              exact wq_sound rest _ _ R h.2 (hr'.put (s := .v undef) (dstOk_of h.1) trivial) hk
          | false =>
            have h := hf rfl
            have hr' := hr.know (s' := .ff) hl rfl (fun _ => trivial)
            split at h
            · rename_i hw
              subst hw
              rw [if_pos (by simp [Region.wanted, hg, hy])]
              exact run hr' h.1 h.2
            · rename_i hw
              have hwf : want = true := by simpa using hw
              subst hwf
              rw [if_neg (by simp [Region.wanted, hg, hy])]
              exact wq_sound rest _ _ R h.2 (hr'.put (s := .v undef) (dstOk_of h.1) trivial) hk
        · exact h.elim
theorem Sat.region_q {id : Nat} {l : List Oper} (hm : P.follows .mixedOrders = true) (hB : Region.lexB .any l.toArray = true) (h : WQ P (l.map (·.dst)) l st (K .normal)) : Sat P F (.region id l.toArray true) st K := by
  rintro R0 w0 a w ⟨ob, R, hr⟩
  have hdrew : Grown w { w with drawn := w.drawn + 1 } := ⟨rfl, rfl, rfl, Nat.le_refl _, fun _ _ _ => rfl⟩
  refine wp_region_quiet (C := Grown w) hm hB hdrew ?_
  refine wq_sound (ops := l.toArray) (k := K .normal) l st a R (by simpa using h) hr ?_
  intro st' a' R' hk hr' w' hg
  exact ⟨st', hk, ob, R', hr'.grown hg⟩
theorem getD_get {α : Type} {l : List α} {j : Nat} (h : j < l.length) {d : α} : l[j]? = some (l.getD j d) := by simp [List.getD, h]
/-! ### A function -/
def argEnv : Nat → List SV → List (Nat × SV)
  | _, [] => []
  | i, s :: l => (i, s) :: argEnv (i + 1) l
theorem look_argEnv : ∀ (l : List SV) (i t : Nat) (s : SV), look (argEnv i l) t = some s → ∃ j, t = i + j ∧ l[j]? = some s
  | [], i, t, s, h => by cases h
  | x :: l, i, t, s, h => by
    simp only [argEnv, look] at h
    split at h
    · rename_i e; simp only [Option.some.injEq] at h; subst h; exact ⟨0, by omega, rfl⟩
    · obtain ⟨j, h1, h2⟩ := look_argEnv l (i + 1) t s h
      exact ⟨j + 1, by omega, h2⟩
def resVR (P : Program) (st : St) : ResultVar → VR
  | .tmp t => rOpt (look st.env t)
  | .cell a t => rLoad P st.own t (look st.env a)
def resHolds (P : Program) (st : St) : List ResultVar → (List SV → Prop) → Prop
  | [], K => K []
  | r :: rs, K => (resVR P st r).holds fun s => resHolds P st rs fun l => K (s :: l)
def ro (own : List Own) : SV → SV
  | .agg n rd => .agg n fun j => roArg own (rd j)
  | s => roArg own s
def resOf (own : List Own) : List SV → SV
  | [s] => ro own s
  | l => .tup l.length fun j => ro own (l.getD j default)
def retK (P : Program) (rs : List ResultVar) (post : SV → Prop) : Exit → St → Prop
  | .normal, st => resHolds P st rs fun l => post (resOf st.own l)
  | .ret, st => resHolds P st rs fun l => post (resOf st.own l)
  | _, _ => False
def resRun (tmps : Array Value) : ResultVar → Sem Value
  | .tmp t => pure (tmps.getD t undef)
  | .cell a' t => do loadVar t (← asAddr (tmps.getD a' undef))
theorem resVR_ok {R0 R : Nat → Prop} {w0 : Org} {w : World} {ob : Nat} {a : Act} (hr : RelR F R0 w0 ob R st a w) {r : ResultVar} {k : SV → Prop} (h : (resVR P st r).holds k) : ∃ s, k s ∧ s.ok R w ∧
    (resRun a.tmps r).run P w = .ok s.den w := by
  cases r with
  | tmp t =>
    unfold resVR at h
    have h := holds_opt.1 h
    split at h
    · rename_i s hl
      have := hr.env t s hl
      exact ⟨s, h, this.2, by simp [resRun, this.1]⟩
    · exact h.elim
  | cell t ty =>
    unfold resVR at h
    have hv : Vok P st (.load ty (.tmp t)) k := by
      apply rOp_ok
      unfold rOp
      exact h
    obtain ⟨s, hk, hall⟩ := hv
    obtain ⟨h1, h2, _⟩ := hall R _ a w hr.env hr.own
    refine ⟨s, hk, h1, ?_⟩
    have h3 := h2 ⟨none, .load ty (.tmp t), 0, "", #[], none⟩ rfl
    simp only [resRun, execOp, Act.eval, Instr.loadAt, Sem.run_bind] at h3 ⊢
    cases hv : a.tmps.getD t undef with
    | pointer p =>
      cases p with
      | some ad =>
        rw [hv] at h3
        simp only [Instr.sureAddr, asAddr, Sem.run_pure, Result.andThen_ok] at h3 ⊢
        cases hl : (loadVar ty ad).run P w with
        | ok x y => rw [hl] at h3; simp only [Result.andThen_ok, Sem.run_pure, Result.ok.injEq, Next.value.injEq] at h3; rw [h3.1, h3.2]
        | halt x y => rw [hl] at h3; simp at h3
      | none => rw [hv] at h3; simp [Instr.sureAddr, stuck] at h3
    | _ => rw [hv] at h3; simp [Instr.sureAddr, stuck] at h3
theorem resHolds_ok {R0 R : Nat → Prop} {w0 : Org} {w : World} {ob : Nat} {a : Act} (hr : RelR F R0 w0 ob R st a w) : ∀ {rs : List ResultVar} {k : List SV → Prop}, resHolds P st rs k → ∃ l, k l ∧ (∀ s ∈ l, s.ok R w) ∧
    (rs.mapM (resRun a.tmps)).run P w = .ok (l.map SV.den) w
  | [], k, h => ⟨[], h, by simp, rfl⟩
  | r :: rs, k, h => by
    obtain ⟨s, h1, h2, h3⟩ := resVR_ok hr h
    obtain ⟨l, h4, h5, h6⟩ := resHolds_ok hr h1
    refine ⟨s :: l, h4, fun x hx => (List.mem_cons.1 hx).elim (fun e => e ▸ h2) (h5 x), ?_⟩
    simp only [List.mapM_cons, Sem.run_bind, List.map_cons]
    rw [h3]
    simp only [Result.andThen_ok, h6, Sem.run_pure]
theorem ro_ok {R0 R : Nat → Prop} {w0 : Org} {w : World} {ob : Nat} {a : Act} (hr : RelR F R0 w0 ob R st a w) {s : SV} (hs : s.ok R w) : (ro st.own s).den = s.den ∧ (ro st.own s).ok (withOwn st R) w := by
  cases s with
  | agg n rd =>
    refine ⟨?_, fun j hj => (roArg_ok hr (hs j hj)).2⟩
    simp only [ro, SV.den]
    congr 2
    apply List.map_congr_left
    intro j hj
    exact (roArg_ok hr (hs j (by simpa using hj))).1
  | _ => exact roArg_ok hr hs
theorem contract_of {f : FuncId} {fn : Func} {c : Code} {args : List SV} {post : SV → Prop} (hf : P.funcs[f]? = some fn) (hb : fn.body = some c) (hname : (fn.name == "runtime.NumGoroutine") = false)
    (h : Sat P F c ⟨fn.ntmps, argEnv 0 args, []⟩ (retK P fn.results.toList post)) : Contract F P f args post := by
  refine ⟨fun vs w => ?_, fun R w hinv hargs hR => ?_⟩
  · have hn : ¬ fn.name = "runtime.NumGoroutine" := by simpa using hname
    simp [callFunc, hf, hn, hb]
  · refine calls_of_wp hf hb ?_
    have hrel : RelR F R ⟨w, fun _ => False⟩ w.heap.size R ⟨fn.ntmps, argEnv 0 args, []⟩ { tmps := (args.map SV.den).toArray ++ Array.replicate (fn.ntmps - (args.map SV.den).toArray.size) undef, defers := [] } w := by
      refine ⟨rfl, ?_, ?_, fun i o ho => by simp at ho, fun i j o o' _ ho => by simp at ho, Evo.refl _ _, hinv, fun b hb => F.lt w b hinv hb, fun i o ho => by simp at ho, Nat.le_refl _, fun b hb => ⟨(hR b hb).1, (hR b hb).2, .inl hb⟩, fun _ h => h⟩
      · intro t s ht
        obtain ⟨j, rfl, hj⟩ := look_argEnv args 0 t s ht
        have hlt := (List.getElem?_eq_some_iff.1 hj).1
        refine ⟨?_, hargs s (List.mem_of_getElem? hj)⟩
        rw [Nat.zero_add, Array.getElem?_append_left (by simpa using hlt)]
        simp [hj]
      · simp; omega
    refine wp_mono (h R ⟨w, fun _ => False⟩ _ w ⟨_, R, hrel⟩) ?_
    have fin : ∀ a' w' st', resHolds P st' fn.results.toList (fun l => post (resOf st'.own l)) → Rel F R ⟨w, fun _ => False⟩ st' a' w' → a'.defers = [] ∧ ∃ v, (results fn a'.tmps).run P w' = .ok v w' ∧ (fun e w' => ∃ r, e = Ending.returned r.den ∧ post r ∧ r.ok (fun b => R b ∨ (w.heap.size ≤ b ∧ b < w'.heap.size)) w' ∧ Evo F.M w w' ∧ F.Inv w') (.returned v) w' := by
      rintro a' w' st' hres ⟨ob, R', hr'⟩
      obtain ⟨l, hpost, hlok, hrun⟩ := resHolds_ok hr' hres
      have hsub : ∀ b, withOwn st' R' b → R b ∨ (w.heap.size ≤ b ∧ b < w'.heap.size) := by
        rintro b (hb | ⟨i, o, ho, hb⟩)
        · rcases (hr'.rr b hb).2.2 with h | h | h
          · exact .inl h
          · exact .inr ⟨h, (hr'.rr b hb).1⟩
          · exact h.elim
        · obtain ⟨h1, h2, _⟩ := Own.blk_lt (hr'.own i o ho) hb
          rcases hr'.gb i o ho b hb with h | h
          · exact .inr ⟨h, h2⟩
          · exact h.elim
      have hro : ∀ s ∈ l, (ro st'.own s).den = s.den ∧ (ro st'.own s).ok (fun b => R b ∨ (w.heap.size ≤ b ∧ b < w'.heap.size)) w' := fun s hs =>
        ⟨(ro_ok hr' (hlok s hs)).1, SV.ok_mono hsub (fun _ _ => rfl) _ (ro_ok hr' (hlok s hs)).2⟩
      have hmA : ∀ (g : ResultVar → Sem Value), (fn.results.toList.mapM g).run P w' = .ok (l.map SV.den) w' → (fn.results.mapM g).run P w' = .ok (l.map SV.den).toArray w' := by
        intro g hg
        rw [Array.mapM_eq_mapM_toList]
        simp only [Sem.run_map, hg, Result.andThen_ok]
      refine ⟨hr'.defers, (resOf st'.own l).den, ?_, resOf st'.own l, rfl, hpost, ?_, ⟨hr'.evo.os, hr'.evo.tape, hr'.evo.output, hr'.evo.size, fun b hb hm => hr'.evo.block b hb (fun h => h.elim hm (fun h => h))⟩, hr'.inv⟩
      · unfold results
        rw [Sem.run_bind]
        show ((fn.results.mapM (resRun a'.tmps)).run P w').andThen _ = _
        rw [hmA _ hrun]
        simp only [Result.andThen_ok, Sem.run_pure, Result.ok.injEq, and_true]
        match l, hro with
        | [s], hro => simp [resOf, (hro s (by simp)).1]
        | [], hro => simp [resOf, SV.den]
        | s :: t :: rest, hro =>
          simp only [resOf, SV.den, List.map_cons, List.size_toArray, List.length_cons, List.length_map]
          rw [dif_neg (by omega)]
          congr 1
          apply Array.ext'
          apply List.ext_getElem?
          intro j
          simp only [List.getElem?_map]
          by_cases hj : j < rest.length + 1 + 1
          · rw [List.getElem?_range hj]
            have hj' : j < (s :: t :: rest).length := by simpa using hj
            have hmem : (s :: t :: rest).getD j default ∈ s :: t :: rest := getD_mem hj'
            have e1 : (s.den :: t.den :: rest.map SV.den)[j]? = some ((s :: t :: rest).getD j default).den := by
              have : (s.den :: t.den :: rest.map SV.den) = (s :: t :: rest).map SV.den := rfl
              rw [this, List.getElem?_map, getD_get hj' (d := default)]
              rfl
            rw [e1, Option.map_some, (hro _ hmem).1]
          · rw [List.getElem?_eq_none (by simp; omega), List.getElem?_eq_none (by simp; omega)]; rfl
      · match l, hro with
        | [s], hro => exact (hro s (by simp)).2
        | [], hro => intro j hj; simp at hj
        | s :: t :: rest, hro => intro j hj; exact (hro _ (getD_mem hj)).2
    rintro e a' w' ⟨st', hk, hr'⟩
    cases e with
    | normal => exact fin a' w' st' hk hr'
    | ret => exact fin a' w' st' hk hr'
    | _ => exact hk.elim
end
end Eng
end Go.Proofs.YtpkmnggfomllhaaDoor
