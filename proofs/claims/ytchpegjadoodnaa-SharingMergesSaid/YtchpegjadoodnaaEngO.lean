/- The evaluator, part O: a row of the call's own that is only read from now on; regions that draw their order, by a tree of orders. -/
import Derived.Test.YtchpegjadoodnaaEngN
set_option linter.unusedSimpArgs false
set_option linter.unusedVariables false
namespace Go.Proofs.Ytchpegjadoodnaa
namespace Eng
section
variable {P : Program} {F : Frm} {n : Nat} {env : List (Nat × SV)} {own : List Own}

/-- a row of the call's own is only read from now on -/
theorem Sat.settle {c : Code} {K : Exit → St → Prop} (t : Nat) {id len cap sz : Nat} {a : Option Addr} {rd : Nat → Nat → SV} {own' : List Own} (hl : look env t = some (.os id a len cap)) (ho : frz own [.os id a len cap] = own') (hf : asRead own' (.os id a len cap) = some (a, len, cap, sz, rd))
    (h : Sat P F c ⟨n, (t, .sl a len cap sz rd) :: env, own'⟩ K) : Sat P F c ⟨n, env, own⟩ K := by
  subst ho
  rintro R0 w0 ac w ⟨ob, R, hr⟩
  obtain ⟨R', hRR, hr'⟩ := hr.frz [.os id a len cap]
  refine h R0 w0 ac w ⟨ob, R', ?_⟩
  have h1 := hr'.env t _ hl
  have h2 := (asRead_ok (st := ⟨n, env, frz own [.os id a len cap]⟩) hf hr'.own h1.2).2
  refine ⟨hr'.defers, ?_, hr'.size, hr'.own, hr'.dist, hr'.evo, hr'.inv, hr'.obM, hr'.gb, hr'.obw, hr'.rr, hr'.r0⟩
  intro u s hu
  simp only [look] at hu
  split at hu
  · rename_i e
    simp only [Option.some.injEq] at hu
    subst hu
    subst e
    exact ⟨h1.1, h2⟩
  · exact hr'.env u s hu
theorem Sat.settle2 {c : Code} {K : Exit → St → Prop} (t : Nat) {id e len cap sz : Nat} {a : Option Addr} {rd : Nat → Nat → SV} (hl : look env t = some (.os id a len cap)) (ho : own[id]? = some (.row a e len cap sz rd))
    (h : Sat P F c ⟨n, (t, .sl a len cap sz rd) :: env, own.set id (.frz a len cap sz rd)⟩ K) : Sat P F c ⟨n, env, own⟩ K := by
  have hlt : id < own.length := (List.getElem?_eq_some_iff.1 ho).1
  have h1 : frz own [.os id a len cap] = own.set id (.frz a len cap sz rd) := by
    simp [frz, frzOne, ho]
  refine Sat.settle t hl h1 ?_ h
  simp [asRead, hlt]
end

/-! ### A tree of orders -/
/-- a tree of orders: one operation comes next, or any of some -/
inductive OT where
  | done
  | one (i : Nat) (t : OT)
  | alt (i : Nat) (t : OT) (rest : OT)
  | none

def OT.heads : OT → List Nat
  | .alt i _ r => i :: r.heads
  | _ => []
/-- the tree stands for all orders (top: a choice must have all operations that are ready) -/
def treeGo (md : Region.Mode) (ops : Array Oper) : OT → Bool → Nat → Array Bool → Bool
  | .done, _, m, listed => m == 0 && (Region.ready md ops listed).isEmpty
  | .one k t, _, m + 1, listed => (Region.ready md ops listed).contains k && (match ops[k]? with
      | some o => if wless o.op = true then Region.free md ops listed k else if (loadOp o.op && (Region.free md ops listed k && loadsOnly md ops listed k)) = true then true else Region.ready md ops listed == [k]
      | none => false) && treeGo md ops t true m (listed.setIfInBounds k true)
  | .alt i t r, top, m + 1, listed => (!top || (Region.ready md ops listed).all fun j => (i :: r.heads).contains j) && !(Region.ready md ops listed).isEmpty && (ops[i]?).isSome && treeGo md ops t true m (listed.setIfInBounds i true) && treeGo md ops r false (m + 1) listed
  | .none, top, _, _ => !top
  | _, _, _, _ => false
def treeB (ops : Array Oper) (t : OT) : Bool := Region.noSelect ops && treeGo .any ops t true ops.size (Array.replicate ops.size false)

section
variable {P : Program} {F : Frm}
def WOT (P : Program) (F : Frm) (ds : List (Option Tmp)) (l : List Oper) : OT → St → (St → Prop) → Prop
  | .done, st, k => k st
  | .one i t, st, k => WO P F ds [l.getD i default] st (fun st' => WOT P F ds l t st' k)
  | .alt i t r, st, k => WO P F ds [l.getD i default] st (fun st' => WOT P F ds l t st' k) ∧ WOT P F ds l r st k
  | .none, _, _ => True

variable {l : List Oper} {md : Region.Mode} {Q : Exit → Act → World → Prop} {k : St → Prop} {R0 : Nat → Prop} {w0 : Org}
theorem list_get {i : Nat} {o : Oper} (h : l.toArray[i]? = some o) : l.getD i default = o := by
  have : l[i]? = some o := by simpa using h
  simp [List.getD, this]

theorem tree_one (hpan : ∀ c a w, ¬ Q (.panic c) a w) {i : Nat} {o : Oper} (hi : l.toArray[i]? = some o) {st : St} {a : Act} {w : World} {k' : St → Prop} (h : WO P F (l.toArray.toList.map (·.dst)) [o] st k') (hr : Rel F R0 w0 st a w)
    {K : Act → World → Prop} (hK : ∀ st' a' w', k' st' → Rel F R0 w0 st' a' w' → K a' w') : wpOp P l.toArray Q i K a w := by
  unfold wpOp
  simp only [hi]
  rcases wo_cases h hr with ⟨hw, st1, hr1, hd, hs⟩ | ⟨hw, st1, ⟨ob, R, hr1⟩, hd, hs⟩
  · rw [if_pos hw]
    exact .inl (stepO_good hd hs _ _ _ _ o _ _ rfl rfl hr1 fun st' a' w' h' hr' => hK st' a' w' h' hr')
  · rw [if_neg (by rw [hw]; exact Bool.false_ne_true)]
    exact hK _ _ _ hs ⟨ob, R, hr1.put (s := .v undef) (dstOk_of hd) trivial⟩

theorem tree_sound (hpan : ∀ c a w, ¬ Q (.panic c) a w) (hsel : Region.noSelect l.toArray = true) : ∀ (t : OT) (top : Bool) (m : Nat) (listed : Array Bool) (st : St) (a : Act) (w : World), treeGo md l.toArray t top m listed = true →
    WOT P F (l.toArray.toList.map (·.dst)) l t st k → Rel F R0 w0 st a w → (∀ st' a' w', k st' → Rel F R0 w0 st' a' w' → Q .normal a' w') →
    (top = true → wpAny P md l.toArray Q m listed a w) ∧ (∀ j ∈ t.heads, ∃ m', m = m' + 1 ∧ wpOp P l.toArray Q j (fun a' w' => wpAny P md l.toArray Q m' (listed.setIfInBounds j true) a' w') a w)
  | .done, top, m, listed, st, a, w, hB, h, hr, hk => by
    refine ⟨fun _ => ?_, fun j hj => by cases hj⟩
    simp only [treeGo, Bool.and_eq_true, beq_iff_eq] at hB
    obtain ⟨rfl, hB⟩ := hB
    exact ⟨by simpa using hB, hk _ _ _ h hr⟩
  | .none, top, m, listed, st, a, w, hB, h, hr, hk => by
    refine ⟨fun ht => ?_, fun j hj => by cases hj⟩
    subst ht
    simp [treeGo] at hB
  | .one i t, top, 0, listed, st, a, w, hB, h, hr, hk => by simp [treeGo] at hB
  | .alt i t r, top, 0, listed, st, a, w, hB, h, hr, hk => by simp [treeGo] at hB
  | .one i t, top, m + 1, listed, st, a, w, hB, h, hr, hk => by
    refine ⟨fun _ => ?_, fun j hj => by cases hj⟩
    simp only [treeGo, Bool.and_eq_true] at hB
    obtain ⟨⟨hready, hkind⟩, hB'⟩ := hB
    cases hi : l.toArray[i]? with
    | none => rw [hi] at hkind; cases hkind
    | some o =>
    rw [hi] at hkind
    have hready' : i ∈ Region.ready md l.toArray listed := by simpa using hready
    simp only [WOT, list_get hi] at h
    have hc := wo_cases h hr
    have next : ∀ {st' : St} {a' : Act} {w' : World}, WOT P F (l.toArray.toList.map (·.dst)) l t st' k → Rel F R0 w0 st' a' w' → wpAny P md l.toArray Q m (listed.setIfInBounds i true) a' w' := fun h' hr' =>
      (tree_sound hpan hsel t true m _ _ _ _ hB' h' hr' hk).1 rfl
    have fixed : ∀ (C : World → Prop), C w → (wless o.op = true ∨ loadOp o.op = true ∧ ∀ w', C w' → w' = w) → ∃ v, Fixed P l.toArray C o v a ∧ wpAny P md l.toArray Q m (listed.setIfInBounds i true) (a.put o.dst v) w := by
      intro C hCw hop
      rcases hc with ⟨hw, st1, ⟨ob, R, hr1⟩, hd, hs⟩ | ⟨hw, st1, ⟨ob, R, hr1⟩, hd, hs⟩
      · obtain ⟨s, hs, hv⟩ := stepO_plain (hop.imp id (·.1)) hs
        obtain ⟨hok, hy, hall⟩ := hv R _ a w hr1.env hr1.own
        refine ⟨s.den, .inl ⟨hw, fun w' hw' => ?_⟩, next hs ⟨ob, R, hr1.put (dstOk_of hd) hok⟩⟩
        rcases hop with hop | ⟨_, hop⟩
        · exact hall hop w' o rfl
        · rw [hop w' hw']; exact hy o rfl
      · exact ⟨undef, .inr ⟨hw, rfl⟩, next hs ⟨ob, R, hr1.put (s := .v undef) (dstOk_of hd) trivial⟩⟩
    simp only at hkind
    split at hkind
    · rename_i hwl
      obtain ⟨v, hf, hn⟩ := fixed (fun _ => True) trivial (.inl hwl)
      exact wpAny_first hpan hi (Region.noSelect_spec hsel) m listed a w trivial (fun j oj hj hne hun hno => ⟨Region.free_spec hi hkind j oj hj hne hun hno, fun _ _ a K h => Oper.wp_mono (fun _ _ h => ⟨trivial, h⟩) h⟩) hready' hf hn
    · split at hkind
      · rename_i hlo
        obtain ⟨hlo, hkind⟩ := hlo
        obtain ⟨v, hf, hn⟩ := fixed (fun w' => w' = w) rfl (.inr ⟨hlo, fun _ h => h⟩)
        refine wpAny_first (C := fun w' => w' = w) hpan hi (Region.noSelect_spec hsel) m listed a w rfl (fun j oj hj hne hun hno => ⟨Region.free_spec hi hkind.1 j oj hj hne hun hno, fun w' hw' a K h => ?_⟩) hready' hf hn
        obtain rfl : w' = w := hw'
        have h1 := List.all_eq_true.1 hkind.2 j (List.mem_range.2 (Array.getElem?_eq_some_iff.1 hj).1)
        simp only [hj, Bool.or_eq_true, beq_iff_eq, hne, false_or, hun, Bool.false_eq_true] at h1
        rcases h1 with h1 | h1
        · obtain ⟨e, he, hb⟩ := Array.any_eq_true'.1 h1
          simp only [Bool.and_eq_true, beq_iff_eq] at hb
          exact absurd hb.2 (hno e he hb.1)
        · exact still_keeps h1 h
      · have hone : Region.ready md l.toArray listed = [i] := by simpa using hkind
        refine ⟨fun h0 => (by rw [hone] at h0; cases h0), fun j hj => ?_⟩
        rw [hone] at hj
        obtain rfl : j = i := by simpa using hj
        exact tree_one hpan hi h hr fun st' a' w' h' hr' => next h' hr'
  | .alt i t r, top, m + 1, listed, st, a, w, hB, h, hr, hk => by
    simp only [treeGo, Bool.and_eq_true] at hB
    obtain ⟨⟨⟨⟨hcov, hne⟩, his⟩, hB1⟩, hB2⟩ := hB
    obtain ⟨h1, h2⟩ := h
    obtain ⟨o, hi⟩ := Option.isSome_iff_exists.1 his
    rw [list_get hi] at h1
    have heads : ∀ j ∈ (OT.alt i t r).heads, ∃ m', m + 1 = m' + 1 ∧ wpOp P l.toArray Q j (fun a' w' => wpAny P md l.toArray Q m' (listed.setIfInBounds j true) a' w') a w := by
      intro j hj
      rcases List.mem_cons.1 hj with rfl | hj
      · exact ⟨m, rfl, tree_one hpan hi h1 hr fun st' a' w' h' hr' => (tree_sound hpan hsel t true m _ _ _ _ hB1 h' hr' hk).1 rfl⟩
      · exact (tree_sound hpan hsel r false (m + 1) listed st a w hB2 h2 hr hk).2 j hj
    refine ⟨fun ht => ?_, heads⟩
    subst ht
    refine ⟨fun h0 => (by rw [h0] at hne; simp at hne), fun j hj => ?_⟩
    have hj' : j ∈ (OT.alt i t r).heads := by
      have hcov' : ∀ x ∈ Region.ready md l.toArray listed, x = i ∨ x ∈ r.heads := by simpa using hcov
      simpa [OT.heads] using hcov' j hj
    obtain ⟨m', hm, hw⟩ := heads j hj'
    obtain rfl : m' = m := by omega
    exact hw

/-- a region that draws its order: by a tree of orders that stands for all of them -/
theorem Sat.region_tree {K : Exit → St → Prop} {st : St} {id : Nat} {l : List Oper} (t : OT) (hm : P.follows .mixedOrders = true) (hB : treeB l.toArray t = true) (hpan : ∀ c st, ¬ K (.panic c) st)
    (h : ∀ k : St → Prop, (∀ st', K .normal st' → k st') → WOT P F (l.map (·.dst)) l t st k) : Sat P F (.region id l.toArray true) st K := by
  rintro R0 w0 a w ⟨ob, R, hr⟩
  simp only [treeB, Bool.and_eq_true] at hB
  have hdrew : Grown w { w with drawn := w.drawn + 1 } := ⟨rfl, rfl, rfl, Nat.le_refl _, fun _ _ _ => rfl⟩
  refine wp_region_any hm ?_
  have := (tree_sound (P := P) (F := F) (l := l) (Q := fun e a' w' => ∃ st', K e st' ∧ Rel F R0 w0 st' a' w') (k := K .normal) (fun c a w ⟨st', hk, _⟩ => hpan c st' hk) hB.1 t true _ _ st a { w with drawn := w.drawn + 1 } hB.2 (by simpa using h _ fun _ h => h)
    ⟨ob, R, hr.grown hdrew⟩ (fun st' a' w' hk hr' => ⟨st', hk, hr'⟩)).1 rfl
  simpa using this
end
end Eng
end Go.Proofs.Ytchpegjadoodnaa
