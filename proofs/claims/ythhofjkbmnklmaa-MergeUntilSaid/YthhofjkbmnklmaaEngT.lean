/- The evaluator, part T: a call that turns one object of its caller's, and is handed functions that look at others. -/
import Derived.Test.YthhofjkbmnklmaaEngR
set_option linter.unusedSimpArgs false
set_option linter.unusedVariables false
namespace Go.Proofs.Ythhofjkbmnklmaa
namespace Eng
section
variable {P : Program} {F : Frm} {st : St} {k : St → Prop} {dst : Option Tmp} {ds : List (Option Tmp)} {rest : List Oper} {R0 R : Nat → Prop} {w0 : Org} {w : World} {ob : Nat} {a : Act}
theorem lend_get {own : List Own} {id i : Nat} {o : Own} (ho : (own.set id .gone)[i]? = some o) : o = .gone ∨ (id ≠ i ∧ own[i]? = some o) := by
  rw [List.getElem?_set] at ho
  split at ho
  · split at ho
    · left; simpa using ho.symm
    · cases ho
  · rename_i hne
    exact .inr ⟨hne, ho⟩
theorem RelR.lend (h : RelR F R0 w0 ob R st a w) (id : Nat) : RelR F R0 w0 ob R { st with own := st.own.set id .gone } a w := by
  refine ⟨h.defers, h.env, h.size, fun i o ho => ?_, fun i j o o' hij ho ho' b hb => ?_, h.evo, h.inv, h.obM, fun i o ho b hb => ?_, h.obw, h.rr, h.r0⟩
  · rcases lend_get ho with rfl | ⟨_, h1⟩
    · trivial
    · exact h.own i o h1
  · rcases lend_get ho with rfl | ⟨_, h1⟩
    · cases hb
    · rcases lend_get ho' with rfl | ⟨_, h2⟩
      · exact fun e => by cases e
      · exact h.dist i j o o' hij h1 h2 b hb
  · rcases lend_get ho with rfl | ⟨_, h1⟩
    · cases hb
    · exact h.gb i o h1 b hb

/-- an argument beside an object that is handed over: a function may look at other objects -/
def argF (id : Nat) (own : List Own) : SV → SV
  | .fn f n rd => .fn f n fun j => roPtr (own.set id .gone) (rd j)
  | s => argM id s
theorem argF_ok (h : RelR F R0 w0 ob R st a w) (id : Nat) {s : SV} (hs : s.ok R w) : (argF id st.own s).den = s.den ∧ (argF id st.own s).ok (withOwn { st with own := st.own.set id .gone } R) w := by
  have aux : ∀ s : SV, s.ok R w → (argM id s).den = s.den ∧ (argM id s).ok (withOwn { st with own := st.own.set id .gone } R) w := fun s hs => ⟨argM_den id s, SV.ok_mono (fun _ h => .inl h) (fun _ _ => rfl) _ (argM_ok hs)⟩
  cases s with
  | fn f n rd =>
    refine ⟨?_, fun j hj => (roPtr_ok (h.lend id) (hs j hj)).2⟩
    simp only [argF, SV.den]
    congr 2
    apply List.map_congr_left
    intro j hj
    exact (roPtr_ok (h.lend id) (hs j (by simpa using hj))).1
  | _ => (simp only [argF]; exact aux _ hs)
/-- a row of plain data -/
def plainRow : Own → Prop
  | .row _ _ len _ sz rd => ∀ i j, i < len → j < sz → plainS (rd i j) = true
  | _ => False
theorem callK_mutF {f : FuncId} {args : List SV} {post : SV → Own → Prop} (id : Nat) {o0 : Own} (hid : st.own[id]? = some o0) (h : ContractM F P f (args.map (argF id st.own)) o0 post)
    (hpl : ∀ r o1, post r o1 → okM r = true ∧ plainRow o1) (hk : ∀ r o1, post r o1 → k (St.put { st with own := st.own.set id o1 } dst (renM id r))) : CallK P F f args st dst k := by
  intro R0 w0 ob R a w hr hargs
  refine ⟨h.enters, ?_⟩
  have hden : (args.map (argF id st.own)).map SV.den = args.map SV.den := by
    rw [List.map_map]
    exact List.map_congr_left fun s hs => (argF_ok hr id (hargs s hs)).1
  have hidl : id < st.own.length := (List.getElem?_eq_some_iff.1 hid).1
  have hc := h.calls (withOwn { st with own := st.own.set id .gone } R) w ob hr.inv hr.obM hr.obw (Own.ok_keep (hr.own id o0 hid) (fun b hb => .inl hb) (fun b hb hb' => by
      rcases hb' with hb' | ⟨i, o, ho, hb'⟩
      · exact hb'
      · rcases lend_get ho with rfl | ⟨hne, h1⟩
        · cases hb'
        · exact absurd hb' (hr.dist id i o0 o hne hid h1 b hb)) (fun _ _ => rfl) (fun _ _ => rfl)) (fun s' hs' => by
    obtain ⟨s, hs, rfl⟩ := List.mem_map.1 hs'
    exact (argF_ok hr id (hargs s hs)).2) (withOwn_lt (hr.lend id))
  rw [hden] at hc
  refine hc.mono ?_
  rintro e w' ⟨r, o1, R', rfl, hpost, hRR, hR', hrok, hblk, ho1, hevo, hinv⟩
  obtain ⟨hrp, hop⟩ := hpl r o1 hpost
  have hrok2 : r.ok R w' := by
    unfold okM at hrp
    split at hrp
    · trivial
    · exact ok_plain hrp _ _
  refine ⟨renM id r, { st with own := st.own.set id o1 }, R, by rw [renM_den], hk r o1 hpost, renM_ok hrok2, ?_, rfl⟩
  have hRb : ∀ b, R b → w'.heap[b]? = w.heap[b]? := fun b hb => hevo.block b (hr.rr b hb).1 (fun hm => by
    rcases hm with hm | hm
    · exact (hr.rr b hb).2.1 hm
    · exact (Own.blk_lt (hr.own id o0 hid) hm).2.2 hb)
  have hother : ∀ (i : Nat) (o : Own), id ≠ i → st.own[i]? = some o → ∀ b, o.blk = some b → w'.heap[b]? = w.heap[b]? := fun i o hne ho b hb => by
    obtain ⟨h1, h2, _⟩ := Own.blk_lt (hr.own i o ho) hb
    exact hevo.block b h2 (fun hm => by
      rcases hm with hm | hm
      · have := hr.ltM hm; omega
      · exact hr.dist id i o0 o hne hid ho b hm hb)
  refine ⟨hr.defers, fun t s ht => ⟨(hr.env t s ht).1, SV.ok_mono (fun _ h => h) hRb s (hr.env t s ht).2⟩, hr.size, ?_, ?_, ?_, hinv, hr.obM, ?_, Nat.le_trans hr.obw hevo.size, ?_, hr.r0⟩
  · intro i x hx
    rw [List.getElem?_set] at hx
    split at hx
    · rename_i e
      subst e
      simp only [hidl, if_true, Option.some.injEq] at hx
      subst hx
      cases o1 with
      | row a e len cap sz rd => exact ⟨ho1.1, fun g hg hb => ho1.2.1 g hg (hRR _ (.inl hb)), fun i j hi hj => ⟨(ho1.2.2 i j hi hj).1, ok_plain (hop i j hi hj) _ _⟩⟩
      | _ => exact hop.elim
    · rename_i hne
      exact Own.ok_keep (hr.own i x hx) (fun _ h => h) (fun b hb hb' => hb') hRb (hother i x hne hx)
  · intro i j x y hij hx hy b hb1 hb2
    rw [List.getElem?_set] at hx hy
    split at hx <;> split at hy
    · omega
    · rename_i e hne
      subst e
      simp only [hidl, if_true, Option.some.injEq] at hx
      subst hx
      exact hr.dist id j o0 y hij hid hy b (hblk b hb1) hb2
    · rename_i hne e
      subst e
      simp only [hidl, if_true, Option.some.injEq] at hy
      subst hy
      exact hr.dist i id x o0 hij hx hid b hb1 (hblk b hb2)
    · exact hr.dist i j x y hij hx hy b hb1 hb2
  · exact ⟨hevo.os.trans hr.evo.os, hevo.tape.trans hr.evo.tape, hevo.output.trans hr.evo.output, Nat.le_trans hr.evo.size hevo.size, fun b hb hm => (hevo.block b (Nat.lt_of_lt_of_le hb hr.evo.size) (fun h9 => by
      rcases h9 with h9 | h9
      · exact hm (.inl h9)
      · rcases hr.gb id o0 hid b h9 with h8 | h8
        · omega
        · exact hm (.inr h8))).trans (hr.evo.block b hb hm)⟩
  · exact gb_set (m := w0.w.heap.size) (Nat.le_refl _) hr.gb hid fun b hb => .inl (hblk b hb)
  · intro b hb
    obtain ⟨g1, g2, g3⟩ := hr.rr b hb
    exact ⟨Nat.lt_of_lt_of_le g1 hevo.size, g2, g3⟩

theorem wcall_mutF {F : Frm} {n : Nat} {env : List (Nat × SV)} {own : List Own} {f : FuncId} {args args' : List SV} {post : SV → Own → Prop} (id : Nat) {o0 : Own} (h : ContractM F P f args' o0 post) (hpl : ∀ r o1, post r o1 → okM r = true ∧ plainRow o1) (hid : own[id]? = some o0) (ha : args.map (argF id own) = args')
    (hk : ∀ r o1, post r o1 → WO P F ds rest (St.put ⟨n, env, own.set id o1⟩ dst (renM id r)) k) : WCall P F ds rest dst ⟨n, env, own⟩ f (some args) k := by
  unfold WCall
  exact callK_mutF (st := ⟨n, env, own⟩) (k := fun st' => WO P F ds rest st' k) id hid (by rw [ha]; exact h) hpl hk
end
end Eng
end Go.Proofs.Ythhofjkbmnklmaa
