/- The evaluator, part It: range over a function. -/
import Derived.RangeFuncRecord
import Derived.TacticsIn
import Derived.RangeFuncLeaves
import Derived.Sort.LoopGhostIn
import Derived.Test.YtgimngpcfenoaaaEngP
set_option linter.unusedSimpArgs false
set_option linter.unusedVariables false
namespace Go.Proofs.Ytgimngpcfenoaaa
namespace Eng
def wideR (rd : Option Nat) : Fence := { Fence.wide with round := rd }
theorem put_with (a : Act) (ds : List Deferred) (d : Option Tmp) (v : Value) : ({ a with defers := ds } : Act).put d v = { a.put d v with defers := ds } := by cases d <;> rfl
theorem eval_with (a : Act) (ds : List Deferred) : ({ a with defers := ds } : Act).eval = a.eval := by funext x; cases x <;> rfl
section
variable {P : Program} {F : Frm} {st : St} {k : St → Prop} {dst : Option Tmp} {R0 R : Nat → Prop} {w0 : Org} {w : World} {ob : Nat} {a : Act}
theorem op_in {o : Oper} {ds : List Deferred} {rd : Option Nat} {n : Nat} {N : Act → World → Prop} {Q : Exit → Act → World → Prop} {next : Act → World → Prop}
    (h : o.wp P a w (fun a' w' => a'.defers = a.defers ∧ N a' w') (fun _ _ _ => False)) (hN : ∀ a' w', N a' w' → next { a' with defers := ds } w') :
    o.wpIn (wideR rd) n P { a with defers := ds } w next Q := by
  refine ⟨fun _ _ => trivial, ?_⟩
  have hnd : ∀ c, o.op ≠ .defer c := by
    intro c hc
    unfold Oper.wp execOp at h
    rw [hc] at h
    simp only [Sem.run_bind] at h
    cases hres : (resolve a.eval c o.type).run P w with
    | ok d w' => simp [hres, Result.andThen, Oper.upon, put_defers] at h
    | halt c' w' => 
      simp only [hres, Result.andThen] at h
      cases c' <;> exact h.elim
  rw [Oper.semAt_eq _ _ _ hnd, eval_with]
  unfold Oper.wp at h
  cases hr : (execOp a.eval o).run P w with
  | ok nx w' =>
    rw [hr] at h
    cases nx with
    | value v => rw [Oper.uponIn_value, put_with]; exact hN _ _ h.2
    | skip => rw [Oper.uponIn_skip, put_with]; exact hN _ _ h.2
    | defer d =>
      have h1 := h.1
      rw [put_defers] at h1
      simp at h1
    | enter f args =>
      rw [Oper.uponIn_enter]
      refine ⟨fun hh => (by cases hh), ?_⟩
      have hc : CallsIn Fence.wide (n - 1) P f args w' _ := callsIn_wide.2 h
      have hc' : CallsIn (wideR rd) (n - 1) P f args w' _ := hc
      refine hc'.mono ?_
      rintro e w2 he
      cases e with
      | returned v => 
        show next (({ a with defers := ds } : Act).put o.dst v) w2
        rw [put_with]; exact hN _ _ he.2
      | panicked chain => exact he.elim
      | outgrown => obtain ⟨_, _, hx⟩ := he; exact hx.elim
    | row r args =>
      rw [Oper.uponIn_row]
      refine ⟨fun hh => (by cases hh), fun c cs _ => ?_⟩
      obtain ⟨v, w2, hq, hs⟩ := h c cs
      refine ⟨v, w2, ?_, stepsIn_wide.2 hs⟩
      show next (({ a with defers := ds } : Act).put o.dst v) w2
      rw [put_with]; exact hN _ _ hq.2
    | _ => exact h.elim
  | halt c w' =>
    rw [hr] at h
    cases c <;> exact h.elim
theorem good_in {op : Op} (hg : Good P F op dst st k) {o : Oper} (ho : o.op = op) (hd : o.dst = dst) (hr : Rel F R0 w0 st a w) {ds : List Deferred} {rd : Option Nat} {n : Nat} {Q : Exit → Act → World → Prop} {next : Act → World → Prop}
    (hk : ∀ st' a' w', k st' → Rel F R0 w0 st' a' w' → next { a' with defers := ds } w') : o.wpIn (wideR rd) n P { a with defers := ds } w next Q :=
  op_in (hg R0 w0 a w o (fun a' w' => a'.defers = a.defers ∧ ∃ st', k st' ∧ Rel F R0 w0 st' a' w') (fun _ _ _ => False) ho hd hr fun st' a' w' h1 h2 => ⟨(by
    obtain ⟨_, _, h3⟩ := h2
    obtain ⟨_, _, h4⟩ := hr
    rw [h3.defers, h4.defers]), st', h1, h2⟩) fun a' w' ⟨st', h1, h2⟩ => hk st' a' w' h1 h2
theorem stepO_in {o : Oper} (hd : dstOk st o.dst) (h : stepO P F st o.dst o.op k) (hr : Rel F R0 w0 st a w) {ds : List Deferred} {rd : Option Nat} {n : Nat} {Q : Exit → Act → World → Prop} {next : Act → World → Prop}
    (hk : ∀ st' a' w', k st' → Rel F R0 w0 st' a' w' → next { a' with defers := ds } w') : o.wpIn (wideR rd) n P { a with defers := ds } w next Q :=
  good_in (stepO_good hd h) rfl rfl hr hk
theorem wo_soundI {ops : Array Oper} {Q : Exit → Act → World → Prop} {rd : Option Nat} {n : Nat} {dfs : List Deferred} : ∀ (l : List Oper) (st : St) (a : Act) (w : World), WO P F (ops.toList.map (·.dst)) l st k → Rel F R0 w0 st a w →
    (∀ st' a' w', k st' → Rel F R0 w0 st' a' w' → Q .normal { a' with defers := dfs } w') → wpListIn (wideR rd) n P ops Q l { a with defers := dfs } w
  | [], st, a, w, h, hr, hk => hk _ _ _ h hr
  | o :: rest, st, a, w, h, hr, hk => by
    have run : ∀ {st : St}, Rel F R0 w0 st a w → dstOk st o.dst → (stepO P F st o.dst o.op fun st' => WO P F (ops.toList.map (·.dst)) rest st' k) → o.wpIn (wideR rd) n P { a with defers := dfs } w (wpListIn (wideR rd) n P ops Q rest) Q := fun hr hd hs =>
      stepO_in hd hs hr fun st' a' w' h' hr' => wo_soundI rest st' a' w' h' hr' hk
    unfold WO at h
    unfold wpListIn
    split at h
    · rename_i hg
      rw [if_pos (by simp [Region.wanted, hg])]
      exact (run hr h.1 h.2)
    · rename_i j want hg
      split at h
      · exact h.elim
      · rename_i t hj
        obtain ⟨ob, R, hrr⟩ := hr
        split at h
        · rename_i hl
          have hy := yielded_dst (tmps := a.tmps) hj (hrr.env t _ hl).1
          split at h
          · rename_i hw
            subst hw
            rw [if_pos (by simp [Region.wanted, hg, hy])]
            exact (run ⟨ob, R, hrr⟩ h.1 h.2)
          · rename_i hw
            have hwf : want = false := by simpa using hw
            subst hwf
            rw [if_neg (by simp [Region.wanted, hg, hy])]
            refine ⟨fun _ _ => trivial, ?_⟩
            rw [put_with]
            exact wo_soundI rest _ (a.put o.dst undef) _ h.2 ⟨ob, R, hrr.put (s := .v undef) (dstOk_of h.1) trivial⟩ hk
        · rename_i hl
          have hy := yielded_dst (tmps := a.tmps) hj (hrr.env t _ hl).1
          split at h
          · rename_i hw
            subst hw
            rw [if_pos (by simp [Region.wanted, hg, hy])]
            exact (run ⟨ob, R, hrr⟩ h.1 h.2)
          · rename_i hw
            have hwf : want = true := by simpa using hw
            subst hwf
            rw [if_neg (by simp [Region.wanted, hg, hy])]
            refine ⟨fun _ _ => trivial, ?_⟩
            rw [put_with]
            exact wo_soundI rest _ (a.put o.dst undef) _ h.2 ⟨ob, R, hrr.put (s := .v undef) (dstOk_of h.1) trivial⟩ hk
        · rename_i vs hl
          have hy : yielded ops a.tmps j = none := yielded_none hj (hrr.env t _ hl).1
          rw [if_neg (by simp [Region.wanted, hg, hy])]
          refine ⟨fun _ _ => trivial, ?_⟩
          rw [put_with]
          exact wo_soundI rest _ (a.put o.dst undef) _ h.2 ⟨ob, R, hrr.put (s := .v undef) (dstOk_of h.1) trivial⟩ hk
        · rename_i x hl
          obtain ⟨_, ht, hf⟩ := h
          have hy := yielded_dst (tmps := a.tmps) hj (hrr.env t _ hl).1
          cases x with
          | true =>
            have h := ht rfl
            have hr' := hrr.know (s' := .tt) hl rfl (fun _ => trivial)
            split at h
            · rename_i hw
              subst hw
              rw [if_pos (by simp [Region.wanted, hg, hy])]
              exact (run ⟨ob, R, hr'⟩ h.1 h.2)
            · rename_i hw
              have hwf : want = false := by simpa using hw
              subst hwf
              rw [if_neg (by simp [Region.wanted, hg, hy])]
              refine ⟨fun _ _ => trivial, ?_⟩
              rw [put_with]
              exact wo_soundI rest _ (a.put o.dst undef) _ h.2 ⟨ob, R, hr'.put (s := .v undef) (dstOk_of h.1) trivial⟩ hk
          | false =>
            have h := hf rfl
            have hr' := hrr.know (s' := .ff) hl rfl (fun _ => trivial)
            split at h
            · rename_i hw
              subst hw
              rw [if_pos (by simp [Region.wanted, hg, hy])]
              exact (run ⟨ob, R, hr'⟩ h.1 h.2)
            · rename_i hw
              have hwf : want = true := by simpa using hw
              subst hwf
              rw [if_neg (by simp [Region.wanted, hg, hy])]
              refine ⟨fun _ _ => trivial, ?_⟩
              rw [put_with]
              exact wo_soundI rest _ (a.put o.dst undef) _ h.2 ⟨ob, R, hr'.put (s := .v undef) (dstOk_of h.1) trivial⟩ hk
        · exact h.elim
/-! ### A call of yield -/
def YieldK (P : Program) (F : Frm) (l : Nat) (args : List SV) (st : St) (dst : Option Tmp) (k : St → Prop) : Prop :=
  ∀ (R0 : Nat → Prop) (w0 : Org) (ob : Nat) (R : Nat → Prop) (a : Act) (w : World), RelR F R0 w0 ob R st a w → (∀ s ∈ args, s.ok R w) →
    ∃ fn tmps assign body, (Instr.yield l (args.map SV.den).toArray).run P w = .ok (.round l fn tmps assign body) w ∧ ∀ n, RoundIn Fence.wide n P l fn tmps assign body w fun e w' =>
      ∃ (r : SV) (st' : St) (R' : Nat → Prop), e = .returned r.den ∧ k (st'.put dst r) ∧ r.ok R' w' ∧ (∃ ob', RelR F R0 w0 ob' R' st' a w') ∧ st'.n = st.n
def yfun : SV → Option Nat
  | .v (.func (.yield l) ts vs) => if ts.size = 0 ∧ vs.size = 0 then some l else none
  | _ => none
theorem yfun_eq {s : SV} {l : Nat} (h : yfun s = some l) : s = .v (.func (.yield l) #[] #[]) := by
  unfold yfun at h
  split at h
  · rename_i l' ts vs
    split at h
    · rename_i hc
      cases h
      rw [Array.eq_empty_of_size_eq_zero hc.1, Array.eq_empty_of_size_eq_zero hc.2]
    · cases h
  · cases h
def asYield (st : St) : Op → Option (Nat × List SV)
  | .call { callee := .value (.tmp t), args := args, argTypes := _ } => (match (look st.env t).bind yfun, evs st.env args.toList with
    | some l, some L => some (l, L)
    | _, _ => none)
  | _ => none
def stepY (P : Program) (F : Frm) (st : St) (dst : Option Tmp) (op : Op) (k : St → Prop) : Prop :=
  match asYield st op with
  | some (l, L) => YieldK P F l L st dst k
  | none => stepO P F st dst op k
theorem stepY_in {o : Oper} (hd : dstOk st o.dst) (h : stepY P F st o.dst o.op k) (hr : Rel F R0 w0 st a w) {ds : List Deferred} {rd : Option Nat} {n : Nat} {Q : Exit → Act → World → Prop} {next : Act → World → Prop}
    (hk : ∀ st' a' w', k st' → Rel F R0 w0 st' a' w' → next { a' with defers := ds } w') : o.wpIn (wideR rd) n P { a with defers := ds } w next Q := by
  unfold stepY at h
  split at h
  · rename_i l L hy
    unfold asYield at hy
    split at hy
    · rename_i t args ts hop
      split at hy
      · rename_i l' L' h1 h2
        cases hy
        obtain ⟨s, hs, hl⟩ := Option.bind_eq_some_iff.1 h1
        have hsv := yfun_eq hl
        subst hsv
        obtain ⟨ob, R, hrr⟩ := hr
        obtain ⟨g1, g2⟩ := evs_ok hrr.env _ _ h2
        obtain ⟨fn, tmps, assign, body, hrun, hround⟩ := h R0 w0 ob R a w hrr g2
        have hargs : args.map a.eval = (L.map SV.den).toArray := by apply Array.ext'; rw [Array.toList_map]; exact g1
        have hev : a.eval (.tmp t) = .func (.yield l) #[] #[] := by simp [Act.eval, (hrr.env t _ hs).1, SV.den]
        refine ⟨fun _ _ => trivial, ?_⟩
        rw [Oper.semAt_eq _ _ _ (fun c hc => by rw [hop] at hc; cases hc), eval_with]
        have hx : (execOp a.eval o).run P w = .ok (.round l fn tmps assign body) w := by
          unfold execOp
          rw [hop]
          simp only [resolve, hev, Deferred.ofValue, Sem.run_bind, Sem.run_pure, Result.andThen_ok, invoke, hargs]
          simpa using hrun
        rw [hx, Oper.uponIn_round]
        refine ⟨fun hh => (by cases hh), ?_⟩
        have hc : RoundIn (wideR rd) (n - 1) P l fn tmps assign body w _ := hround (n - 1)
        refine hc.mono ?_
        rintro e w' ⟨r, st', R', rfl, hk', hrok, ⟨ob', hrel⟩, hn⟩
        show next (({ a with defers := ds } : Act).put o.dst r.den) w'
        rw [put_with]
        exact hk _ _ _ hk' ⟨ob', R', hrel.put (fun t ht => by rw [hn]; exact dstOk_of hd t ht) hrok⟩
      · cases hy
    · cases hy
  · exact stepO_in hd h hr hk
def WOY (P : Program) (F : Frm) (ds : List (Option Tmp)) : List Oper → St → (St → Prop) → Prop
  | [], st, k => k st
  | o :: rest, st, k =>
    match o.guard with
    | none => dstOk st o.dst ∧ stepY P F st o.dst o.op fun st' => WOY P F ds rest st' k
    | some (j, want) => match (ds[j]?).bind id with
      | none => False
      | some t => match look st.env t with
        | some .tt => if want = true then dstOk st o.dst ∧ (stepY P F st o.dst o.op fun st' => WOY P F ds rest st' k) else dstOk st o.dst ∧ WOY P F ds rest (st.put o.dst (.v undef)) k
        | some .ff => if want = false then dstOk st o.dst ∧ (stepY P F st o.dst o.op fun st' => WOY P F ds rest st' k) else dstOk st o.dst ∧ WOY P F ds rest (st.put o.dst (.v undef)) k
        | some (.v (.tuple _)) => dstOk st o.dst ∧ WOY P F ds rest (st.put o.dst (.v undef)) k
        | some (.b x) => t < st.n ∧ (x = true → if want = true then dstOk (st.put (some t) .tt) o.dst ∧ (stepY P F (st.put (some t) .tt) o.dst o.op fun st' => WOY P F ds rest st' k) else dstOk (st.put (some t) .tt) o.dst ∧ WOY P F ds rest ((st.put (some t) .tt).put o.dst (.v undef)) k) ∧
            (x = false → if want = false then dstOk (st.put (some t) .ff) o.dst ∧ (stepY P F (st.put (some t) .ff) o.dst o.op fun st' => WOY P F ds rest st' k) else dstOk (st.put (some t) .ff) o.dst ∧ WOY P F ds rest ((st.put (some t) .ff).put o.dst (.v undef)) k)
        | _ => False
theorem woy_sound {ops : Array Oper} {Q : Exit → Act → World → Prop} {rd : Option Nat} {n : Nat} {dfs : List Deferred} : ∀ (l : List Oper) (st : St) (a : Act) (w : World), WOY P F (ops.toList.map (·.dst)) l st k → Rel F R0 w0 st a w →
    (∀ st' a' w', k st' → Rel F R0 w0 st' a' w' → Q .normal { a' with defers := dfs } w') → wpListIn (wideR rd) n P ops Q l { a with defers := dfs } w
  | [], st, a, w, h, hr, hk => hk _ _ _ h hr
  | o :: rest, st, a, w, h, hr, hk => by
    have run : ∀ {st : St}, Rel F R0 w0 st a w → dstOk st o.dst → (stepY P F st o.dst o.op fun st' => WOY P F (ops.toList.map (·.dst)) rest st' k) → o.wpIn (wideR rd) n P { a with defers := dfs } w (wpListIn (wideR rd) n P ops Q rest) Q := fun hr hd hs =>
      stepY_in hd hs hr fun st' a' w' h' hr' => woy_sound rest st' a' w' h' hr' hk
    unfold WOY at h
    unfold wpListIn
    split at h
    · rename_i hg
      rw [if_pos (by simp [Region.wanted, hg])]
      exact (run hr h.1 h.2)
    · rename_i j want hg
      split at h
      · exact h.elim
      · rename_i t hj
        obtain ⟨ob, R, hrr⟩ := hr
        split at h
        · rename_i hl
          have hy := yielded_dst (tmps := a.tmps) hj (hrr.env t _ hl).1
          split at h
          · rename_i hw
            subst hw
            rw [if_pos (by simp [Region.wanted, hg, hy])]
            exact (run ⟨ob, R, hrr⟩ h.1 h.2)
          · rename_i hw
            have hwf : want = false := by simpa using hw
            subst hwf
            rw [if_neg (by simp [Region.wanted, hg, hy])]
            refine ⟨fun _ _ => trivial, ?_⟩
            rw [put_with]
            exact woy_sound rest _ (a.put o.dst undef) _ h.2 ⟨ob, R, hrr.put (s := .v undef) (dstOk_of h.1) trivial⟩ hk
        · rename_i hl
          have hy := yielded_dst (tmps := a.tmps) hj (hrr.env t _ hl).1
          split at h
          · rename_i hw
            subst hw
            rw [if_pos (by simp [Region.wanted, hg, hy])]
            exact (run ⟨ob, R, hrr⟩ h.1 h.2)
          · rename_i hw
            have hwf : want = true := by simpa using hw
            subst hwf
            rw [if_neg (by simp [Region.wanted, hg, hy])]
            refine ⟨fun _ _ => trivial, ?_⟩
            rw [put_with]
            exact woy_sound rest _ (a.put o.dst undef) _ h.2 ⟨ob, R, hrr.put (s := .v undef) (dstOk_of h.1) trivial⟩ hk
        · rename_i vs hl
          have hy : yielded ops a.tmps j = none := yielded_none hj (hrr.env t _ hl).1
          rw [if_neg (by simp [Region.wanted, hg, hy])]
          refine ⟨fun _ _ => trivial, ?_⟩
          rw [put_with]
          exact woy_sound rest _ (a.put o.dst undef) _ h.2 ⟨ob, R, hrr.put (s := .v undef) (dstOk_of h.1) trivial⟩ hk
        · rename_i x hl
          obtain ⟨_, ht, hf⟩ := h
          have hy := yielded_dst (tmps := a.tmps) hj (hrr.env t _ hl).1
          cases x with
          | true =>
            have h := ht rfl
            have hr' := hrr.know (s' := .tt) hl rfl (fun _ => trivial)
            split at h
            · rename_i hw
              subst hw
              rw [if_pos (by simp [Region.wanted, hg, hy])]
              exact (run ⟨ob, R, hr'⟩ h.1 h.2)
            · rename_i hw
              have hwf : want = false := by simpa using hw
              subst hwf
              rw [if_neg (by simp [Region.wanted, hg, hy])]
              refine ⟨fun _ _ => trivial, ?_⟩
              rw [put_with]
              exact woy_sound rest _ (a.put o.dst undef) _ h.2 ⟨ob, R, hr'.put (s := .v undef) (dstOk_of h.1) trivial⟩ hk
          | false =>
            have h := hf rfl
            have hr' := hrr.know (s' := .ff) hl rfl (fun _ => trivial)
            split at h
            · rename_i hw
              subst hw
              rw [if_pos (by simp [Region.wanted, hg, hy])]
              exact (run ⟨ob, R, hr'⟩ h.1 h.2)
            · rename_i hw
              have hwf : want = true := by simpa using hw
              subst hwf
              rw [if_neg (by simp [Region.wanted, hg, hy])]
              refine ⟨fun _ _ => trivial, ?_⟩
              rw [put_with]
              exact woy_sound rest _ (a.put o.dst undef) _ h.2 ⟨ob, R, hr'.put (s := .v undef) (dstOk_of h.1) trivial⟩ hk
        · exact h.elim
/-! ### Code in a round's frame, or behind a range over a function -/
def SatJ (P : Program) (F : Frm) (rd : Option Nat) (c : Code) (ds : List Deferred) (st : St) (K : Exit → List Deferred → St → Prop) : Prop :=
  ∀ (R0 : Nat → Prop) (w0 : Org) (a : Act) (w : World), Rel F R0 w0 st a w → ∀ n, c.wpIn (wideR rd) n P (fun e a' w' => ∃ st' ds' a1, K e ds' st' ∧ Rel F R0 w0 st' a1 w' ∧ a' = { a1 with defers := ds' }) { a with defers := ds } w
def thenJ (next : List Deferred → St → Prop) (K : Exit → List Deferred → St → Prop) : Exit → List Deferred → St → Prop
  | .normal, ds, st => next ds st
  | e, ds, st => K e ds st
def blockJ (id : Nat) (K : Exit → List Deferred → St → Prop) : Exit → List Deferred → St → Prop
  | .exit id', ds, st => if id' = id then K .normal ds st else K (.exit id') ds st
  | e, ds, st => K e ds st
theorem with_nil {a : Act} (h : a.defers = []) : ({ a with defers := [] } : Act) = a := by cases a; simp at h; simp [h]
theorem Rel.defers (h : Rel F R0 w0 st a w) : a.defers = [] := by obtain ⟨_, _, h⟩ := h; exact h.defers
variable {rd : Option Nat} {ds : List Deferred} {K : Exit → List Deferred → St → Prop}
theorem SatJ.mono {c : Code} {K' : Exit → List Deferred → St → Prop} (h : SatJ P F rd c ds st K) (hk : ∀ e ds st, K e ds st → K' e ds st) : SatJ P F rd c ds st K' :=
  fun R0 w0 a w hr n => Go.wpIn_mono (h R0 w0 a w hr n) fun e a' w' ⟨st', ds', a1, h1, h2⟩ => ⟨st', ds', a1, hk e ds' st' h1, h2⟩
theorem SatJ.of_sat {c : Code} (h : Sat P F c st fun e st' => K e [] st') : SatJ P F none c [] st K := fun R0 w0 a w hr n => by
  rw [with_nil hr.defers]
  refine Go.wpIn_mono (wpIn_wide.2 (h R0 w0 a w hr)) ?_
  rintro e a' w' ⟨st', hk, hr'⟩
  exact ⟨st', [], a', hk, hr', (with_nil hr'.defers).symm⟩
theorem SatJ.to_sat {c : Code} {K : Exit → St → Prop} (h : SatJ P F none c [] st fun e ds st' => ds = [] ∧ K e st') : Sat P F c st K := fun R0 w0 a w hr => by
  have h0 := h R0 w0 a w hr 0
  rw [with_nil hr.defers] at h0
  refine wp_mono (wpIn_wide.1 h0) ?_
  rintro e a' w' ⟨st', ds', a1, ⟨rfl, hk⟩, hr', rfl⟩
  rw [with_nil hr'.defers]
  exact ⟨st', hk, hr'⟩
theorem SatJ.skip (h : K .normal ds st) : SatJ P F rd .skip ds st K := fun R0 w0 a w hr n => wpIn_skip ⟨st, ds, a, h, hr, rfl⟩
theorem SatJ.label {l : Nat} (h : K .normal ds st) : SatJ P F rd (.label l) ds st K := fun R0 w0 a w hr n => wpIn_label ⟨st, ds, a, h, hr, rfl⟩
theorem SatJ.exit {id : Nat} (h : K (.exit id) ds st) : SatJ P F rd (.exit id) ds st K := fun R0 w0 a w hr n => wpIn_exit ⟨st, ds, a, h, hr, rfl⟩
theorem SatJ.ret (h : K .ret ds st) : SatJ P F rd .ret ds st K := fun R0 w0 a w hr n => wpIn_ret ⟨st, ds, a, h, hr, rfl⟩
theorem SatJ.seq {x y : Code} (h : SatJ P F rd x ds st (thenJ (fun ds' st' => SatJ P F rd y ds' st' K) K)) : SatJ P F rd (.seq x y) ds st K := by
  intro R0 w0 a w hr n
  refine wpIn_seq (Go.wpIn_mono (h R0 w0 a w hr n) ?_)
  rintro e a' w' ⟨st', ds', a1, hk, hr', rfl⟩
  cases e with
  | normal => exact hk R0 w0 a1 w' hr' n
  | _ => exact ⟨st', ds', a1, hk, hr', rfl⟩
theorem SatJ.block {id : Nat} {c : Code} (h : SatJ P F rd c ds st (blockJ id K)) : SatJ P F rd (.block id c) ds st K := by
  intro R0 w0 a w hr n
  refine wpIn_block (Go.wpIn_mono (h R0 w0 a w hr n) ?_)
  rintro e a' w' ⟨st', ds', a1, hk, hr', rfl⟩
  cases e with
  | exit id' =>
    simp only [blockJ] at hk
    simp only [Exit.inBlock]
    split at hk
    · rename_i e; rw [if_pos e]; exact ⟨st', ds', a1, hk, hr', rfl⟩
    · rename_i e; rw [if_neg e]; exact ⟨st', ds', a1, hk, hr', rfl⟩
  | _ => exact ⟨st', ds', a1, hk, hr', rfl⟩
theorem SatJ.cond_tt {c : Operand} {x y : Code} (hc : ev st.env c = some .tt) (h : SatJ P F rd x ds st K) : SatJ P F rd (.cond c x y) ds st K := by
  rintro R0 w0 a w ⟨ob, R, hr⟩ n
  exact wpIn_cond_true (by rw [eval_with]; exact (ev_ok hr.env hc).1) (h R0 w0 a w ⟨ob, R, hr⟩ n)
theorem SatJ.cond_ff {c : Operand} {x y : Code} (hc : ev st.env c = some .ff) (h : SatJ P F rd y ds st K) : SatJ P F rd (.cond c x y) ds st K := by
  rintro R0 w0 a w ⟨ob, R, hr⟩ n
  exact wpIn_cond_false (by rw [eval_with]; exact (ev_ok hr.env hc).1) (h R0 w0 a w ⟨ob, R, hr⟩ n)
theorem SatJ.cond_b {c : Operand} {x y : Code} {b : Bool} (hc : ev st.env c = some (.b b)) (ht : b = true → SatJ P F rd x ds st K) (hf : b = false → SatJ P F rd y ds st K) : SatJ P F rd (.cond c x y) ds st K := by
  rintro R0 w0 a w ⟨ob, R, hr⟩ n
  have := (ev_ok hr.env hc).1
  rw [← eval_with a ds] at this
  exact wpIn_cond_split this (fun h => ht h R0 w0 a w ⟨ob, R, hr⟩ n) (fun h => hf h R0 w0 a w ⟨ob, R, hr⟩ n)
theorem SatJ.le {c : Code} {st' : St} (h : SatJ P F rd c ds st' K) (hl : Le st st') : SatJ P F rd c ds st K := fun R0 w0 a w hr n => h R0 w0 a w (hr.le hl) n
theorem SatJ.region {id : Nat} {l : List Oper} (h : WO P F (l.map (·.dst)) l st (K .normal ds)) : SatJ P F rd (.region id l.toArray false) ds st K := by
  intro R0 w0 a w hr n
  refine wpIn_region_lit ?_
  exact wo_soundI (ops := l.toArray) (k := K .normal ds) l st a w (by simpa using h) hr fun st' a' w' hk hr' => ⟨st', ds, a', hk, hr', rfl⟩
theorem SatJ.regionY {id : Nat} {l : List Oper} (h : WOY P F (l.map (·.dst)) l st (K .normal ds)) : SatJ P F rd (.region id l.toArray false) ds st K := by
  intro R0 w0 a w hr n
  refine wpIn_region_lit ?_
  exact woy_sound (ops := l.toArray) (k := K .normal ds) l st a w (by simpa using h) hr fun st' a' w' hk hr' => ⟨st', ds, a', hk, hr', rfl⟩
theorem SatJ.loop {c : Code} {ι : Type} (sh : ι → St) (I : ι → Prop) (μ : ι → Nat) (x0 : ι) (h0 : I x0) (hl : Le st (sh x0))
    (h : ∀ x, I x → SatJ P F rd c ds (sh x) (thenJ (fun ds' st' => ds' = ds ∧ ∃ y, I y ∧ μ y < μ x ∧ Le st' (sh y)) K)) : SatJ P F rd (.loop c) ds st K := by
  intro R0 w0 a w hr n
  refine wpIn_loop_ghost (fun m a' w' => ∃ y a1, I y ∧ μ y = m ∧ Rel F R0 w0 (sh y) a1 w' ∧ a' = { a1 with defers := ds }) (μ x0) ⟨x0, a, h0, rfl, hr.le hl, rfl⟩ ?_
  rintro m a' w' ⟨y, a1, hy, rfl, hry, rfl⟩
  refine Go.wpIn_mono (h y hy R0 w0 a1 w' hry n) ?_
  rintro e a2 w2 ⟨st', ds', a3, hk, hr2, rfl⟩
  cases e with
  | normal =>
    obtain ⟨rfl, z, hz, hlt, hle⟩ := hk
    exact ⟨μ z, hlt, z, a3, hz, rfl, hr2.le hle, rfl⟩
  | _ => exact ⟨st', ds', a3, hk, hr2, rfl⟩
/-! ### A loop's record, as an object of the call's own -/
def tmpsOk (env : List (Nat × SV)) (n : Nat) (tmps : Array Value) : Prop := n ≤ tmps.size ∧ ∀ t s, look env t = some s → tmps[t]? = some s.den
def recP (l : Nat) (state : LoopState) (pending : Option Code) (env : List (Nat × SV)) (n : Nat) (ps : Array Tmp) (assign body : Code) (D : Nat) (w : World) : Prop :=
  ∃ fn tmps, w.heap[l]? = some (.loop { state, pending, fn, tmps, params := ps, assign, body, defers := D }) ∧ tmpsOk env n tmps
abbrev recO (l : Nat) (state : LoopState) (pending : Option Code) (env : List (Nat × SV)) (n : Nat) (ps : Array Tmp) (assign body : Code) (D : Nat) : Own :=
  .res l (recP l state pending env n ps assign body D)
def plainEnv (env : List (Nat × SV)) : Prop := ∀ t s, look env t = some s → ∀ R w, s.ok R w
theorem RelR.setRes (h : RelR F R0 w0 ob R st a w) {i l : Nat} {p p' : World → Prop} (hi : st.own[i]? = some (.res l p)) {o : Obj} (hp : ∀ w'' : World, w''.heap[l]? = some o → p' w'') :
    RelR F R0 w0 ob R { st with own := st.own.set i (.res l p') } a (w.putObj l o) := by
  obtain ⟨h1, h2, h3, h4⟩ := h.own i _ hi
  refine h.setOwn hi (g := l) rfl (fun b hb => by cases hb; rfl) rfl rfl rfl (by simp) (fun b _ hne => World.putObj_heap_other hne) ⟨h1, h2, by simpa using h3, fun w'' hw => hp w'' ?_⟩
  rw [hw l (.inr rfl)]
  exact World.putObj_heap_same h3
theorem RelR.res_now (h : RelR F R0 w0 ob R st a w) {i l : Nat} {p : World → Prop} (hi : st.own[i]? = some (.res l p)) : p w :=
  (h.own i _ hi).2.2.2 w fun _ _ => rfl
theorem RelR.back {a' : Act} {w' : World} {st' : St} (h : RelR F R0 w0 ob R st a w) (h' : Rel F R ⟨w, fun b => ∃ (i : Nat) (o : Own), st.own[i]? = some o ∧ o.blk = some b⟩ st' a' w') :
    ∃ ob' R', RelR F R0 w0 ob' R' { st with own := st'.own } a w' := by
  obtain ⟨ob1, R1, h1⟩ := h'
  have hkeep : ∀ b, R b → w'.heap[b]? = w.heap[b]? := fun b hb => h1.evo.block b (h.rr b hb).1 (by
    rintro (hm | ⟨i, o, ho, hob⟩)
    · exact (h.rr b hb).2.1 hm
    · exact (Own.blk_lt (h.own i o ho) hob).2.2 hb)
  obtain ⟨ob', R', hu⟩ := h.unbase ⟨ob1, R1, h1⟩
  have hu0 : RelR F R0 w0 ob1 R1 st' a' w' := by
    obtain ⟨ob2, R2, hu2⟩ := h.unbase ⟨ob1, R1, h1⟩
    have hG : ∀ b, (∃ (i : Nat) (o : Own), st.own[i]? = some o ∧ o.blk = some b) → w0.w.heap.size ≤ b ∨ w0.G b := fun b ⟨i, o, ho, hb⟩ => h.gb i o ho b hb
    have hs := h.evo.size
    refine ⟨h1.defers, h1.env, h1.size, h1.own, h1.dist, hu2.evo, h1.inv, h1.obM, fun i o ho b hb => ?_, h1.obw, fun b hb => ?_, fun b hb => h1.r0 b (h.r0 b hb)⟩
    · rcases h1.gb i o ho b hb with h9 | h9
      · have h9' : w.heap.size ≤ b := h9
        exact .inl (by omega)
      · exact hG b h9
    · obtain ⟨g1, g2, g3⟩ := h1.rr b hb
      refine ⟨g1, g2, ?_⟩
      rcases g3 with g3 | g3 | g3
      · exact (h.rr b g3).2.2
      · have g3' : w.heap.size ≤ b := g3
        exact .inr (.inl (by omega))
      · rcases hG b g3 with h9 | h9
        · exact .inr (.inl h9)
        · exact .inr (.inr h9)
  exact ⟨ob1, R1, h.defers, fun t s ht => ⟨(h.env t s ht).1, SV.ok_mono (fun b hb => h1.r0 b hb) hkeep s (h.env t s ht).2⟩, h.size, hu0.own, hu0.dist, hu0.evo, hu0.inv, hu0.obM, hu0.gb, hu0.obw, hu0.rr, hu0.r0⟩
def jumpOf : Exit → Option (Option Code)
  | .normal => some none
  | .ret => some (some .ret)
  | .exit id => some (some (.exit id))
  | _ => none
theorem yieldK_of {l i : Nat} {p : Tmp} {assign body : Code} {D nC : Nat} {envC : List (Nat × SV)} {s : SV}
    (hi : st.own[i]? = some (recO l .ready none envC nC #[p] assign body D)) (hp : p < nC) (hpl : plainEnv envC)
    (h : SatJ P F (some l) assign [] ⟨nC, (p, s) :: envC, st.own⟩ (thenJ (fun ds1 st1 => ds1 = [] ∧ st1.own[i]? = some (recO l .ready none envC nC #[p] assign body D) ∧
      SatJ P F (some l) body [] { st1 with own := st1.own.set i (recO l .busy none envC nC #[p] assign body D) } fun e ds2 st2 => st2.own[i]? = some (recO l .busy none envC nC #[p] assign body D) ∧
        match jumpOf e with
        | some j => k (({ st with own := st2.own.set i (recO l (if j.isNone then .ready else .done) j envC nC #[p] assign body D) } : St).put dst (if j.isNone then .tt else .ff))
        | none => False) fun _ _ _ => False)) :
    YieldK P F l [s] st dst k := by
  intro R0 w0 ob R a w hrel hargs
  obtain ⟨fn, tmps, hl, hn, ht⟩ := hrel.res_now hi
  refine ⟨fn, tmps.setIfInBounds p s.den, assign, body, by rw [run_yield hl (by simp)]; simp, fun n => ?_⟩
  refine roundIn_of_wpIn (F := Fence.wide) trivial ?_
  have hb := hrel.rebase
  have relC : Rel F R ⟨w, fun b => ∃ (i : Nat) (o : Own), st.own[i]? = some o ∧ o.blk = some b⟩ ⟨nC, (p, s) :: envC, st.own⟩ { tmps := tmps.setIfInBounds p s.den, defers := [] } w := by
    refine ⟨ob, R, rfl, ?_, by simpa using hn, hb.own, hb.dist, hb.evo, hb.inv, hb.obM, hb.gb, hb.obw, hb.rr, hb.r0⟩
    intro t s' hts
    simp only [look] at hts
    split at hts
    · rename_i e
      subst e
      simp only [Option.some.injEq] at hts
      subst hts
      have : p < tmps.size := Nat.lt_of_lt_of_le hp hn
      exact ⟨by simp [this], hargs _ (by simp)⟩
    · rename_i e
      exact ⟨by rw [Array.getElem?_setIfInBounds_ne e]; exact ht t s' hts, hpl t s' hts _ _⟩
  refine Go.wpIn_mono (h R _ _ w relC n) ?_
  rintro e a1 w1 ⟨st1, ds1, a1', hk1, hr1, rfl⟩
  cases e with
  | normal =>
    obtain ⟨rfl, hi1, hbody⟩ := hk1
    obtain ⟨ob1, R1, hr1⟩ := hr1
    obtain ⟨fn1, tmps1, hl1, ht1⟩ := hr1.res_now hi1
    refine ⟨_, run_beginRound hl1 rfl, ?_⟩
    have hr2 := hr1.setRes hi1 (p' := recP l .busy none envC nC #[p] assign body D) (o := .loop { state := .busy, pending := none, fn := fn1, tmps := tmps1, params := #[p], assign, body, defers := D }) (fun w'' hw => ⟨fn1, tmps1, hw, ht1⟩)
    refine Go.wpIn_mono (hbody R _ a1' _ ⟨ob1, R1, hr2⟩ n) ?_
    rintro e2 a2 w2 ⟨st2, ds2, a2', ⟨hi2, hk2⟩, ⟨ob2, R2, hr3⟩, rfl⟩
    obtain ⟨fn2, tmps2, hl2, ht2⟩ := hr3.res_now hi2
    have key : ∀ j : Option Code, k (({ st with own := st2.own.set i (recO l (if j.isNone then .ready else .done) j envC nC #[p] assign body D) } : St).put dst (if j.isNone then .tt else .ff)) →
        ∃ v w', (Instr.endRound l j).run P w2 = .ok v w' ∧ (fun e w' => ∃ (r : SV) (st' : St) (R' : Nat → Prop), e = Ending.returned r.den ∧ k (st'.put dst r) ∧ r.ok R' w' ∧ (∃ ob', RelR F R0 w0 ob' R' st' a w') ∧ st'.n = st.n) (.returned v) w' := by
      intro j hj
      refine ⟨_, _, run_endRound j hl2, if j.isNone then .tt else .ff, { st with own := st2.own.set i (recO l (if j.isNone then .ready else .done) j envC nC #[p] assign body D) }, ?_⟩
      have hr4 := hr3.setRes hi2 (p' := recP l (if j.isNone then .ready else .done) j envC nC #[p] assign body D) (o := .loop { state := if j.isNone then .ready else .done, pending := j, fn := fn2, tmps := tmps2, params := #[p], assign, body, defers := D }) (fun w'' hw => ⟨fn2, tmps2, hw, ht2⟩)
      obtain ⟨ob5, R5, h5⟩ := hrel.back ⟨ob2, R2, hr4⟩
      refine ⟨R5, ?_, hj, ?_, ⟨ob5, h5⟩, rfl⟩
      · cases j <;> rfl
      · cases j <;> trivial
    cases e2 with
    | normal => exact key none hk2
    | ret => exact key (some .ret) hk2
    | exit id => exact key (some (.exit id)) hk2
    | _ => exact hk2.elim
  | _ => exact hk1.elim
theorem RelR.freshRes (h : RelR F R0 w0 ob R st a w) {o : Obj} {p : World → Prop} (hp : ∀ w'' : World, w''.heap[w.heap.size]? = some o → p w'') :
    RelR F R0 w0 ob R { st with own := st.own ++ [.res w.heap.size p] } a (w.alloc o) := by
  have hold : ∀ b, b < w.heap.size → (w.alloc o).heap[b]? = w.heap[b]? := fun b hb => heap_alloc_old w _ hb
  have hblk : ∀ b, (Own.res w.heap.size p).blk = some b → b = w.heap.size := fun b hb => by cases hb; rfl
  refine h.turn (fun _ => False) rfl rfl rfl (by simp) (fun _ h => h.elim) (fun b hb _ => hold b hb) (fun _ h => h) (fun _ h => .inl h) ?_ ?_ (gb_append h.evo.size h.gb hblk)
  · intro i x hx
    rcases get_append_one hx with hx | ⟨_, rfl⟩
    · exact Own.ok_keep (h.own i x hx) (fun _ h => h) (fun _ _ h => h) (fun b hr => hold b (h.rr b hr).1) (fun b hb => hold b (Own.blk_lt (h.own i x hx) hb).2.1)
    · exact ⟨h.obw, fun hr => Nat.lt_irrefl _ (h.rr _ hr).1, by simp, fun w'' hw => hp w'' (by rw [hw _ (.inr rfl)]; exact World.alloc_heap_new w o)⟩
  · intro i j o1 o2 hij h1 h2 b hb1 hb2
    rcases get_append_one h1 with g1 | ⟨hi, rfl⟩ <;> rcases get_append_one h2 with g2 | ⟨hj, rfl⟩
    · exact h.dist i j o1 o2 hij g1 g2 b hb1 hb2
    · have := (Own.blk_lt (h.own i o1 g1) hb1).2.1
      have := hblk b hb2
      omega
    · have := (Own.blk_lt (h.own j o2 g2) hb2).2.1
      have := hblk b hb1
      omega
    · omega
def defP (D : Nat) (w : World) : Prop := w.heap[D]? = some (.deferred (some []))
abbrev markD (D : Nat) : Deferred := { target := .collected D, args := #[] }
def iterK (st : St) (l D : Nat) (env : List (Nat × SV)) (ps : Array Tmp) (assign body : Code) (K : Exit → List Deferred → St → Prop) (e : Exit) (ds' : List Deferred) (st' : St) : Prop :=
  (e = .normal ∨ e = .ret) ∧ ds' = [] ∧ ∃ state pend, state ≠ .busy ∧ st'.own[st.own.length + 1]? = some (recO l state pend env st.n ps assign body D) ∧
    match pend with
    | none => K .normal [markD D] { st with own := st'.own.set (st.own.length + 1) (.res l fun _ => True) }
    | some .ret => K .ret [markD D] { st with own := st'.own.set (st.own.length + 1) (.res l fun _ => True) }
    | some (.exit id) => K (.exit id) [markD D] { st with own := st'.own.set (st.own.length + 1) (.res l fun _ => True) }
    | _ => False
theorem SatJ.rangeFunc {g : Operand} {q : Tmp} {assign body : Code} {f : FuncId} {nf : Nat} {rdv : Nat → SV} {fn : Func} {c : Code} (envR : List (Nat × SV))
    (hg : ev st.env g = some (.fn f nf rdv)) (hf : P.funcs[f]? = some fn) (hb : fn.body = some c) (hname : (fn.name == "runtime.NumGoroutine") = false) (hres : fn.results = #[])
    (hle : envLe st.env envR)
    (h : ∀ l D, SatJ P F none c [] ⟨fn.ntmps, argEnv 0 (.v (.func (.yield l) #[] #[]) :: (List.range nf).map rdv), st.own ++ [.res D (defP D), recO l .ready none envR st.n #[q] assign body D]⟩ (iterK st l D envR #[q] assign body K)) :
    SatJ P F none (.rangeFunc g #[q] assign body) [] st K := by
  rintro R0 w0 a w ⟨ob, R, hr⟩ n
  rw [with_nil hr.defers]
  refine wpIn_rangeFunc (F := Fence.wide) fun fn0 _ => ?_
  obtain ⟨hev, hok⟩ := ev_ok hr.env hg
  have henR := envLe_ok hr.env hle
  have hn : ¬ fn.name = "runtime.NumGoroutine" := by simpa using hname
  have eg : ∀ vs w, (callFunc f vs).run P w = .ok (.enter f vs) w := fun vs w => by simp [callFunc, hf, hn, hb]
  obtain ⟨args, hargs⟩ : ∃ args : List SV, args = .v (.func (.yield (w.heap.size + 1)) #[] #[]) :: (List.range nf).map rdv := ⟨_, rfl⟩
  have h1 := hr.rebase.freshRes (o := .deferred (some [])) (p := defP w.heap.size) (fun w'' hw => hw)
  have h2 := h1.freshRes (o := .loop { state := .ready, pending := none, fn := fn0, tmps := a.tmps, params := #[q], assign, body, defers := w.heap.size }) (p := recP (w.heap.size + 1) .ready none envR st.n #[q] assign body w.heap.size)
    (fun w'' hw => ⟨fn0, a.tmps, by simpa using hw, hr.size, fun t s ht => (henR t s ht).1⟩)
  obtain ⟨W1, hW1⟩ : ∃ W1, W1 = ((w.alloc (.deferred (some []))).alloc (.loop { state := .ready, pending := none, fn := fn0, tmps := a.tmps, params := #[q], assign, body, defers := w.heap.size })) := ⟨_, rfl⟩
  rw [← hW1] at h2
  refine ⟨w.heap.size + 1, [markD w.heap.size], W1, { target := .fn (.func f) ((List.range nf).map fun j => (rdv j).den).toArray, args := #[.func (.yield (w.heap.size + 1)) #[] #[]] }, W1, f, (args.map SV.den).toArray, W1, (by rw [hW1]; exact run_enterLoop_outer _ _ _ _ _), ?_, fun _ _ => trivial, ?_, fun hh => (by cases hh), ?_⟩
  · simp only [resolve, hev, SV.den]
    simp [go_sem, Act.eval]
  · rw [hargs]; simp [invoke, go_sem, eg, Function.comp_def, SV.den]
  · refine callsIn_wide.2 (calls_of_wp hf hb ?_)
    have hsz : (w.alloc (.deferred (some []))).heap.size = w.heap.size + 1 := World.size_alloc _ _
    have hrel : Rel F R ⟨w, fun b => ∃ (i : Nat) (o : Own), st.own[i]? = some o ∧ o.blk = some b⟩ ⟨fn.ntmps, argEnv 0 args, st.own ++ [.res w.heap.size (defP w.heap.size), recO (w.heap.size + 1) .ready none envR st.n #[q] assign body w.heap.size]⟩
        { tmps := (args.map SV.den).toArray ++ Array.replicate (fn.ntmps - (args.map SV.den).toArray.size) undef, defers := [] } W1 := by
      have hown : st.own ++ [Own.res w.heap.size (defP w.heap.size), recO (w.heap.size + 1) .ready none envR st.n #[q] assign body w.heap.size] = (st.own ++ [.res w.heap.size (defP w.heap.size)]) ++ [.res (w.alloc (.deferred (some []))).heap.size (recP (w.heap.size + 1) .ready none envR st.n #[q] assign body w.heap.size)] := by
        rw [hsz, List.append_assoc]; rfl
      rw [hown]
      refine ⟨ob, R, rfl, ?_, by simp; omega, h2.own, h2.dist, h2.evo, h2.inv, h2.obM, h2.gb, h2.obw, h2.rr, h2.r0⟩
      intro t s ht
      obtain ⟨j, rfl, hj⟩ := look_argEnv args 0 t s ht
      have hlt := (List.getElem?_eq_some_iff.1 hj).1
      refine ⟨?_, ?_⟩
      · rw [Nat.zero_add, Array.getElem?_append_left (by simpa using hlt)]
        simp [hj]
      · have hm := List.mem_of_getElem? hj
        rw [hargs] at hm
        rcases List.mem_cons.1 hm with rfl | hm
        · trivial
        · obtain ⟨j2, hj2, rfl⟩ := List.mem_map.1 hm
          exact SV.ok_mono (fun _ h => h) (fun b hb => by
            have hlt := (hr.rr b hb).1
            rw [hW1, heap_alloc_old _ _ (by rw [hsz]; omega), heap_alloc_old _ _ hlt]) _ (hok j2 (by simpa using hj2))
    have hw := h (w.heap.size + 1) w.heap.size
    rw [← hargs] at hw
    have hw := hw R _ _ _ hrel 0
    refine wp_mono (wpIn_wide.1 hw) ?_
    rintro e a' w' ⟨st', ds', a1, ⟨he, rfl, state, pend, hst, hi, hK⟩, ⟨ob1, R1, hr1⟩, rfl⟩
    obtain ⟨fn1, tmps1, hl1, ht1⟩ := hr1.res_now hi
    have fin : ∃ v, (results fn ({ a1 with defers := [] } : Act).tmps).run P w' = .ok v w' ∧ rangePost Fence.wide n P (w.heap.size + 1) (fun e a' w' => ∃ st' ds' a1, K e ds' st' ∧ Rel F R0 w0 st' a1 w' ∧ a' = { a1 with defers := ds' }) { a with defers := [markD w.heap.size] ++ a.defers } (.returned v) w' := by
      refine ⟨.tuple #[], by unfold results; rw [hres]; simp [go_sem], pend, _, run_endLoop hl1 hst, ?_⟩
      have hr2 := hr1.setRes hi (p' := fun _ => True) (o := .loop { state := .exhausted, pending := pend, fn := fn1, tmps := tmps1, params := #[q], assign, body, defers := w.heap.size }) (fun w'' hw => trivial)
      obtain ⟨ob5, R5, h5⟩ := hr.back ⟨ob1, R1, hr2⟩
      have hd : ({ a with defers := [markD w.heap.size] ++ a.defers } : Act) = { a with defers := [markD w.heap.size] } := by rw [hr.defers]; rfl
      rw [hd]
      cases pend with
      | none => exact ⟨_, _, a, hK, ⟨ob5, R5, h5⟩, rfl⟩
      | some c' =>
        cases c' with
        | ret => exact wpIn_ret ⟨_, _, a, hK, ⟨ob5, R5, h5⟩, rfl⟩
        | exit id => exact wpIn_exit ⟨_, _, a, hK, ⟨ob5, R5, h5⟩, rfl⟩
        | _ => exact hK.elim
    rcases he with rfl | rfl
    · exact ⟨rfl, fin⟩
    · exact ⟨rfl, fin⟩
def retJ (P : Program) (rs : List ResultVar) (post : SV → Prop) (e : Exit) (ds : List Deferred) (st : St) : Prop :=
  (e = .normal ∨ e = .ret) ∧ ∃ D i, ds = [markD D] ∧ st.own[i]? = some (.res D (defP D)) ∧
    resHolds P { st with own := st.own.set i (.res D fun _ => True) } rs fun l => post (resOf (st.own.set i (.res D fun _ => True)) l)
theorem contractJ_of {f : FuncId} {fn : Func} {c : Code} {args : List SV} {post : SV → Prop} (hf : P.funcs[f]? = some fn) (hb : fn.body = some c) (hname : (fn.name == "runtime.NumGoroutine") = false)
    (h : SatJ P F none c [] ⟨fn.ntmps, argEnv 0 args, []⟩ (retJ P fn.results.toList post)) : Contract F P f args post := by
  refine ⟨fun vs w => ?_, fun R w hinv hargs hR => ?_⟩
  · have hn : ¬ fn.name = "runtime.NumGoroutine" := by simpa using hname
    simp [callFunc, hf, hn, hb]
  · refine (callsIn_wide (n := 0)).1 (callsIn_of_wp_marks hf hb trivial ?_ rfl)
    have hrel : RelR F R ⟨w, fun _ => False⟩ w.heap.size R ⟨fn.ntmps, argEnv 0 args, []⟩ { tmps := (args.map SV.den).toArray ++ Array.replicate (fn.ntmps - (args.map SV.den).toArray.size) undef, defers := [] } w := by
      refine ⟨rfl, ?_, ?_, fun i o ho => by simp at ho, fun i j o o' _ ho => by simp at ho, Evo.refl _ _, hinv, fun b hb => F.lt w b hinv hb, fun i o ho => by simp at ho, Nat.le_refl _, fun b hb => ⟨(hR b hb).1, (hR b hb).2, .inl hb⟩, fun _ h => h⟩
      · intro t s ht
        obtain ⟨j, rfl, hj⟩ := look_argEnv args 0 t s ht
        have hlt := (List.getElem?_eq_some_iff.1 hj).1
        refine ⟨?_, hargs s (List.mem_of_getElem? hj)⟩
        rw [Nat.zero_add, Array.getElem?_append_left (by simpa using hlt)]
        simp [hj]
      · simp; omega
    refine Go.wpIn_mono (h R ⟨w, fun _ => False⟩ _ w ⟨_, R, hrel⟩ 0) ?_
    have fin : ∀ a' w' st', resHolds P st' fn.results.toList (fun l => post (resOf st'.own l)) → Rel F R ⟨w, fun _ => False⟩ st' a' w' → a'.defers = [] ∧ ∃ v, (results fn a'.tmps).run P w' = .ok v w' ∧ (fun e w' => ∃ r, e = Ending.returned r.den ∧ post r ∧ r.ok (fun b => R b ∨ (w.heap.size ≤ b ∧ b < w'.heap.size)) w' ∧ Evo F.M w w' ∧ F.Inv w') (.returned v) w' := by
      rintro a' w' st' hres ⟨ob, R', hr'⟩
      obtain ⟨l, hpost, hlok, hrun⟩ := resHolds_ok hr' hres
      have hsub : ∀ b, withOwn st' R' b → R b ∨ (w.heap.size ≤ b ∧ b < w'.heap.size) := by
        rintro b (hb | ⟨i, o, ho, hb⟩)
        · rcases (hr'.rr b hb).2.2 with h | h | h
          · exact .inl h
          · exact .inr ⟨h, (hr'.rr b hb).1⟩
          · exact h.elim
        · obtain ⟨h1, h2, _⟩ := Own.blk_lt (hr'.own i o ho) hb
          rcases hr'.gb i o ho b hb with h | h
          · exact .inr ⟨h, h2⟩
          · exact h.elim
      have hro : ∀ s ∈ l, (ro st'.own s).den = s.den ∧ (ro st'.own s).ok (fun b => R b ∨ (w.heap.size ≤ b ∧ b < w'.heap.size)) w' := fun s hs =>
        ⟨(ro_ok hr' (hlok s hs)).1, SV.ok_mono hsub (fun _ _ => rfl) _ (ro_ok hr' (hlok s hs)).2⟩
      have hmA : ∀ (g : ResultVar → Sem Value), (fn.results.toList.mapM g).run P w' = .ok (l.map SV.den) w' → (fn.results.mapM g).run P w' = .ok (l.map SV.den).toArray w' := by
        intro g hg
        rw [Array.mapM_eq_mapM_toList]
        simp only [Sem.run_map, hg, Result.andThen_ok]
      refine ⟨hr'.defers, (resOf st'.own l).den, ?_, resOf st'.own l, rfl, hpost, ?_, ⟨hr'.evo.os, hr'.evo.tape, hr'.evo.output, hr'.evo.size, fun b hb hm => hr'.evo.block b hb (fun h => h.elim hm (fun h => h))⟩, hr'.inv⟩
      · unfold results
        rw [Sem.run_bind]
        show ((fn.results.mapM (resRun a'.tmps)).run P w').andThen _ = _
        rw [hmA _ hrun]
        simp only [Result.andThen_ok, Sem.run_pure, Result.ok.injEq, and_true]
        match l, hro with
        | [s], hro => simp [resOf, (hro s (by simp)).1]
        | [], hro => simp [resOf, SV.den]
        | s :: t :: rest, hro =>
          simp only [resOf, SV.den, List.map_cons, List.size_toArray, List.length_cons, List.length_map]
          rw [dif_neg (by omega)]
          congr 1
          apply Array.ext'
          apply List.ext_getElem?
          intro j
          simp only [List.getElem?_map]
          by_cases hj : j < rest.length + 1 + 1
          · rw [List.getElem?_range hj]
            have hj' : j < (s :: t :: rest).length := by simpa using hj
            have hmem : (s :: t :: rest).getD j default ∈ s :: t :: rest := getD_mem hj'
            have e1 : (s.den :: t.den :: rest.map SV.den)[j]? = some ((s :: t :: rest).getD j default).den := by
              have : (s.den :: t.den :: rest.map SV.den) = (s :: t :: rest).map SV.den := rfl
              rw [this, List.getElem?_map, getD_get hj' (d := default)]
              rfl
            rw [e1, Option.map_some, (hro _ hmem).1]
          · rw [List.getElem?_eq_none (by simp; omega), List.getElem?_eq_none (by simp; omega)]; rfl
      · match l, hro with
        | [s], hro => exact (hro s (by simp)).2
        | [], hro => intro j hj; simp at hj
        | s :: t :: rest, hro => intro j hj; exact (hro _ (getD_mem hj)).2
    rintro e a' w' ⟨st', ds', a1, ⟨he, D, i, rfl, hi, hres⟩, ⟨ob1, R1, hr1⟩, rfl⟩
    have hD : w'.heap[D]? = some (.deferred (some [])) := hr1.res_now hi
    have hr2 := hr1.setRes hi (p' := fun _ => True) (o := .deferred none) (fun w'' hw => trivial)
    obtain ⟨_, v, hv1, hv2⟩ := fin a1 _ _ hres ⟨ob1, R1, hr2⟩
    rcases he with rfl | rfl
    · exact ⟨by simp, .inl ⟨D, _, rfl, run_takeDeferred hD, v, hv1, hv2⟩⟩
    · exact ⟨by simp, .inl ⟨D, _, rfl, run_takeDeferred hD, v, hv1, hv2⟩⟩
/-! ### A region with a call of yield, in pieces -/
theorem wl_wo {ops : Array Oper} {Q : Exit → Act → World → Prop} {rd : Option Nat} {n : Nat} {dfs : List Deferred} {l2 : List Oper} : ∀ (l : List Oper) (st : St) (a : Act) (w : World), WO P F (ops.toList.map (·.dst)) l st k → Rel F R0 w0 st a w →
    (∀ st' a' w', k st' → Rel F R0 w0 st' a' w' → wpListIn (wideR rd) n P ops Q l2 { a' with defers := dfs } w') → wpListIn (wideR rd) n P ops Q (l ++ l2) { a with defers := dfs } w
  | [], st, a, w, h, hr, hk => hk _ _ _ h hr
  | o :: rest, st, a, w, h, hr, hk => by
    have run : ∀ {st : St}, Rel F R0 w0 st a w → dstOk st o.dst → (stepO P F st o.dst o.op fun st' => WO P F (ops.toList.map (·.dst)) rest st' k) → o.wpIn (wideR rd) n P { a with defers := dfs } w (wpListIn (wideR rd) n P ops Q (rest ++ l2)) Q := fun hr hd hs =>
      stepO_in hd hs hr fun st' a' w' h' hr' => wl_wo rest st' a' w' h' hr' hk
    unfold WO at h
    rw [List.cons_append]
    unfold wpListIn
    split at h
    · rename_i hg
      rw [if_pos (by simp [Region.wanted, hg])]
      exact (run hr h.1 h.2)
    · rename_i j want hg
      split at h
      · exact h.elim
      · rename_i t hj
        obtain ⟨ob, R, hrr⟩ := hr
        split at h
        · rename_i hl
          have hy := yielded_dst (tmps := a.tmps) hj (hrr.env t _ hl).1
          split at h
          · rename_i hw
            subst hw
            rw [if_pos (by simp [Region.wanted, hg, hy])]
            exact (run ⟨ob, R, hrr⟩ h.1 h.2)
          · rename_i hw
            have hwf : want = false := by simpa using hw
            subst hwf
            rw [if_neg (by simp [Region.wanted, hg, hy])]
            refine ⟨fun _ _ => trivial, ?_⟩
            rw [put_with]
            exact wl_wo rest _ (a.put o.dst undef) _ h.2 ⟨ob, R, hrr.put (s := .v undef) (dstOk_of h.1) trivial⟩ hk
        · rename_i hl
          have hy := yielded_dst (tmps := a.tmps) hj (hrr.env t _ hl).1
          split at h
          · rename_i hw
            subst hw
            rw [if_pos (by simp [Region.wanted, hg, hy])]
            exact (run ⟨ob, R, hrr⟩ h.1 h.2)
          · rename_i hw
            have hwf : want = true := by simpa using hw
            subst hwf
            rw [if_neg (by simp [Region.wanted, hg, hy])]
            refine ⟨fun _ _ => trivial, ?_⟩
            rw [put_with]
            exact wl_wo rest _ (a.put o.dst undef) _ h.2 ⟨ob, R, hrr.put (s := .v undef) (dstOk_of h.1) trivial⟩ hk
        · rename_i vs hl
          have hy : yielded ops a.tmps j = none := yielded_none hj (hrr.env t _ hl).1
          rw [if_neg (by simp [Region.wanted, hg, hy])]
          refine ⟨fun _ _ => trivial, ?_⟩
          rw [put_with]
          exact wl_wo rest _ (a.put o.dst undef) _ h.2 ⟨ob, R, hrr.put (s := .v undef) (dstOk_of h.1) trivial⟩ hk
        · rename_i x hl
          obtain ⟨_, ht, hf⟩ := h
          have hy := yielded_dst (tmps := a.tmps) hj (hrr.env t _ hl).1
          cases x with
          | true =>
            have h := ht rfl
            have hr' := hrr.know (s' := .tt) hl rfl (fun _ => trivial)
            split at h
            · rename_i hw
              subst hw
              rw [if_pos (by simp [Region.wanted, hg, hy])]
              exact (run ⟨ob, R, hr'⟩ h.1 h.2)
            · rename_i hw
              have hwf : want = false := by simpa using hw
              subst hwf
              rw [if_neg (by simp [Region.wanted, hg, hy])]
              refine ⟨fun _ _ => trivial, ?_⟩
              rw [put_with]
              exact wl_wo rest _ (a.put o.dst undef) _ h.2 ⟨ob, R, hr'.put (s := .v undef) (dstOk_of h.1) trivial⟩ hk
          | false =>
            have h := hf rfl
            have hr' := hrr.know (s' := .ff) hl rfl (fun _ => trivial)
            split at h
            · rename_i hw
              subst hw
              rw [if_pos (by simp [Region.wanted, hg, hy])]
              exact (run ⟨ob, R, hr'⟩ h.1 h.2)
            · rename_i hw
              have hwf : want = true := by simpa using hw
              subst hwf
              rw [if_neg (by simp [Region.wanted, hg, hy])]
              refine ⟨fun _ _ => trivial, ?_⟩
              rw [put_with]
              exact wl_wo rest _ (a.put o.dst undef) _ h.2 ⟨ob, R, hr'.put (s := .v undef) (dstOk_of h.1) trivial⟩ hk
        · exact h.elim
def WL (P : Program) (F : Frm) (rd : Option Nat) (dfs : List Deferred) (ops : Array Oper) (l : List Oper) (st : St) (k : St → Prop) : Prop :=
  ∀ (R0 : Nat → Prop) (w0 : Org) (a : Act) (w : World) (n : Nat) (Q : Exit → Act → World → Prop), Rel F R0 w0 st a w → (∀ st' a' w', k st' → Rel F R0 w0 st' a' w' → Q .normal { a' with defers := dfs } w') →
    wpListIn (wideR rd) n P ops Q l { a with defers := dfs } w
variable {dfs : List Deferred} {ops : Array Oper}
theorem WL.nil (h : k st) : WL P F rd dfs ops [] st k := fun R0 w0 a w n Q hr hk => hk _ _ _ h hr
theorem WL.wo (l1 l2 : List Oper) (h : WO P F (ops.toList.map (·.dst)) l1 st fun st' => WL P F rd dfs ops l2 st' k) : WL P F rd dfs ops (l1 ++ l2) st k :=
  fun R0 w0 a w n Q hr hk => wl_wo (k := fun st' => WL P F rd dfs ops l2 st' k) l1 st a w h hr fun st' a' w' h' hr' => h' R0 w0 a' w' n Q hr' hk
theorem WL.know {l : List Oper} {t : Tmp} {x : Bool} (hl : look st.env t = some (.b x)) (ht : x = true → WL P F rd dfs ops l (st.put (some t) .tt) k) (hf : x = false → WL P F rd dfs ops l (st.put (some t) .ff) k) : WL P F rd dfs ops l st k := by
  rintro R0 w0 a w n Q ⟨ob, R, hr⟩ hk
  cases x with
  | true => exact ht rfl R0 w0 a w n Q ⟨ob, R, hr.know hl rfl fun _ => trivial⟩ hk
  | false => exact hf rfl R0 w0 a w n Q ⟨ob, R, hr.know hl rfl fun _ => trivial⟩ hk
theorem WL.yield {o : Oper} {rest : List Oper} {j t : Nat} (hg : o.guard = some (j, true)) (hj : ((ops.toList.map (·.dst))[j]?).bind id = some t) (hl : look st.env t = some .tt) (hd : dstOk st o.dst)
    (h : stepY P F st o.dst o.op fun st' => WL P F rd dfs ops rest st' k) : WL P F rd dfs ops (o :: rest) st k := by
  rintro R0 w0 a w n Q ⟨ob, R, hr⟩ hk
  have hy := yielded_dst (tmps := a.tmps) hj (hr.env t _ hl).1
  unfold wpListIn
  rw [if_pos (by simp [Region.wanted, hg, hy])]
  exact stepY_in hd h ⟨ob, R, hr⟩ fun st' a' w' h' hr' => h' R0 w0 a' w' n Q hr' hk
theorem SatJ.region_wl {id : Nat} {l : List Oper} (h : ∀ k : St → Prop, (∀ st', K .normal ds st' → k st') → WL P F rd ds l.toArray l st k) : SatJ P F rd (.region id l.toArray false) ds st K := by
  intro R0 w0 a w hr n
  refine wpIn_region_lit ?_
  exact h _ (fun _ h => h) R0 w0 a w n _ hr fun st' a' w' hk hr' => ⟨st', ds, a', hk, hr', rfl⟩
theorem SatJ.region_k {id : Nat} {l : List Oper} (h : ∀ k : St → Prop, (∀ st', K .normal ds st' → k st') → WO P F (l.map (·.dst)) l st k) : SatJ P F rd (.region id l.toArray false) ds st K :=
  SatJ.region (h _ fun _ h => h)
theorem stepY_mk {op : Op} {l : Nat} {L : List SV} (ha : asYield st op = some (l, L)) (h : YieldK P F l L st dst k) : stepY P F st dst op k := by
  unfold stepY; rw [ha]; exact h
end
end Eng
end Go.Proofs.Ytgimngpcfenoaaa
