/- The evaluator, part N: regions that draw their order and turn memory: an order that stands for all of them. -/
import Derived.Test.YtpkmnggfomllhaaDoorEngM
import Derived.StillTail
set_option linter.unusedSimpArgs false
set_option linter.unusedVariables false
namespace Go.Proofs.YtpkmnggfomllhaaDoor
namespace Eng
def loadOp : Op → Bool
  | .load _ _ => true
  | .convert _ d _ => d != byT
  | _ => false
def stillOp : Op → Bool
  | .load _ _ => true
  | .binOp .shl _ _ _ _ => true
  | .binOp .shr _ _ _ _ => true
  | .binOp .xor _ _ _ _ => true
  | _ => false
def loadsOnly (md : Region.Mode) (ops : Array Oper) (listed : Array Bool) (k : Nat) : Bool :=
  (List.range ops.size).all fun j => j == k || listed.getD j true || match ops[j]? with
    | some oj => oj.after.any (fun e => Region.binds md e && e.on == k) || stillOp oj.op
    | none => true
def ordGo (md : Region.Mode) (ops : Array Oper) : List Nat → Array Bool → Bool
  | [], listed => (Region.ready md ops listed).isEmpty
  | k :: rest, listed => (Region.ready md ops listed).contains k && (match ops[k]? with
      | some o => if wless o.op = true then Region.free md ops listed k else if loadOp o.op = true then Region.free md ops listed k && loadsOnly md ops listed k else Region.ready md ops listed == [k]
      | none => false) && ordGo md ops rest (listed.setIfInBounds k true)
def ordB (ops : Array Oper) (ord : List Nat) : Bool := Region.noSelect ops && ordGo .any ops ord (Array.replicate ops.size false)
section
variable {P : Program} {ops : Array Oper} {md : Region.Mode} {Q : Exit → Act → World → Prop}
def Fixed (P : Program) (ops : Array Oper) (C : World → Prop) (o : Oper) (v : Value) (a : Act) : Prop :=
  (Region.wanted o (yielded ops a.tmps) = true ∧ ∀ w, C w → (execOp a.eval o).run P w = .ok (.value v) w) ∨ (Region.wanted o (yielded ops a.tmps) = false ∧ v = undef)
theorem Fixed.of_same {C : World → Prop} {o : Oper} {v : Value} {a a' : Act} (hy : Fixed P ops C o v a) (he : execOp a'.eval o = execOp a.eval o)
    (hw : Region.wanted o (yielded ops a'.tmps) = Region.wanted o (yielded ops a.tmps)) : Fixed P ops C o v a' := by
  unfold Fixed at *; rw [he, hw]; exact hy
theorem Fixed.wpOp {C : World → Prop} {i : Nat} {o : Oper} {v : Value} {a : Act} {w : World} (hi : ops[i]? = some o) (hy : Fixed P ops C o v a) (hw : C w) {K : Act → World → Prop} (h : K (a.put o.dst v) w) : wpOp P ops Q i K a w := by
  unfold Go.wpOp
  simp only [hi]
  rcases hy with ⟨h1, h2⟩ | ⟨h1, rfl⟩
  · rw [if_pos h1]
    exact .inl (by unfold Oper.wp; rw [h2 w hw]; exact h)
  · rw [if_neg (by rw [h1]; exact Bool.false_ne_true)]
    exact h
theorem wp_put {C : World → Prop} {oi oj : Oper} {v : Value} (hap : oi.apart ops oj = true) (hpan : ∀ c a w, ¬ Q (.panic c) a w)
    (hsi : ∀ cs b, oi.op ≠ .select cs b) (hsj : ∀ cs b, oj.op ≠ .select cs b) {K : Act → World → Prop} {a : Act} {w : World}
    (hy : Fixed P ops C oi v a) (h : oj.wp P (a.put oi.dst v) w K Q) : oj.wp P a w (fun a' w' => Fixed P ops C oi v a' ∧ K (a'.put oi.dst v) w') Q := by
  obtain ⟨h1, h2, h3⟩ := Oper.apart_spec hap
  have keep : ∀ u, Fixed P ops C oi v (a.put oj.dst u) := fun u => hy.of_same (execOp_put oi hsi a oj.dst u h3) (wanted_put oi a oj.dst u h3)
  unfold Oper.wp at *
  rw [execOp_put oj hsj a oi.dst v h1] at h
  generalize (execOp a.eval oj).run P w = r at *
  cases r with
  | ok n w' =>
    cases n <;> simp only [Oper.upon] at h ⊢
    case value u => exact ⟨keep u, by rw [← Act.put_comm a v u h2]; exact h⟩
    case skip => exact ⟨keep _, by rw [← Act.put_comm a v undef h2]; exact h⟩
    case enter f args =>
      refine Calls.mono h fun e w'' he => ?_
      cases e with
      | returned u => exact ⟨keep u, by rw [← Act.put_comm a v u h2]; exact he⟩
      | panicked c => exact absurd he (hpan _ _ _)
      | outgrown => exact he
    case row r args => exact Rows.mono h fun u w'' he => ⟨keep u, by rw [← Act.put_comm a v u h2]; exact he⟩
    case defer d =>
      have e1 : execOp (({ a with defers := d :: a.defers } : Act).put oj.dst undef).eval oi = execOp (a.put oj.dst undef).eval oi := by cases oj.dst <;> rfl
      have e2 : (({ a with defers := d :: a.defers } : Act).put oj.dst undef).tmps = (a.put oj.dst undef).tmps := by cases oj.dst <;> rfl
      refine ⟨(keep undef).of_same e1 (by rw [e2]), ?_⟩
      have e3 : (({ (a.put oi.dst v) with defers := d :: (a.put oi.dst v).defers } : Act).put oj.dst undef) = (({ a with defers := d :: a.defers } : Act).put oj.dst undef).put oi.dst v := by
        rw [← Act.put_comm _ v undef h2]
        cases oi.dst <;> rfl
      rw [e3] at h
      exact h
  | halt x w' => cases x <;> simp only [Oper.upon] at h ⊢; exact absurd h (hpan _ _ _)
theorem wpOp_put {C : World → Prop} {j : Nat} {oi oj : Oper} {v : Value} (hj : ops[j]? = some oj) (hap : oi.apart ops oj = true) (hpan : ∀ c a w, ¬ Q (.panic c) a w)
    (hsi : ∀ cs b, oi.op ≠ .select cs b) (hsj : ∀ cs b, oj.op ≠ .select cs b) {K : Act → World → Prop} {a : Act} {w : World} (hC : C w)
    (hCj : ∀ (a : Act) (K : Act → World → Prop), oj.wp P a w K Q → oj.wp P a w (fun a' w' => C w' ∧ K a' w') Q)
    (hy : Fixed P ops C oi v a) (h : wpOp P ops Q j K (a.put oi.dst v) w) : wpOp P ops Q j (fun a' w' => C w' ∧ Fixed P ops C oi v a' ∧ K (a'.put oi.dst v) w') a w := by
  obtain ⟨h1, h2, h3⟩ := Oper.apart_spec hap
  unfold wpOp at *
  simp only [hj] at *
  rw [wanted_put oj a oi.dst v h1] at h
  split
  · rename_i hw
    simp only [hw, if_true] at h
    rcases h with h | ⟨h, hl⟩
    · exact .inl (hCj a _ (wp_put hap hpan hsi hsj hy h))
    · refine .inr ⟨?_, hl⟩
      unfold Oper.asks at *
      rwa [execOp_put oj hsj a oi.dst v h1] at h
  · rename_i hw
    simp only [hw] at h
    exact ⟨hC, hy.of_same (execOp_put oi hsi a oj.dst undef h3) (wanted_put oi a oj.dst undef h3), by rw [← Act.put_comm a v undef h2]; exact h⟩
theorem wpAny_first {C : World → Prop} {i : Nat} {oi : Oper} {v : Value} (hpan : ∀ c a w, ¬ Q (.panic c) a w) (hi : ops[i]? = some oi) (hsel : ∀ (j : Nat) (o : Oper) cs b, ops[j]? = some o → o.op ≠ .select cs b) :
    ∀ (fuel : Nat) (listed : Array Bool) (a : Act) (w : World), C w →
      (∀ j oj, ops[j]? = some oj → j ≠ i → listed.getD j true = false → (∀ e ∈ oj.after, Region.binds md e = true → e.on ≠ i) → oi.apart ops oj = true ∧
        ∀ (w : World), C w → ∀ (a : Act) (K : Act → World → Prop), oj.wp P a w K Q → oj.wp P a w (fun a' w' => C w' ∧ K a' w') Q) →
      i ∈ Region.ready md ops listed → Fixed P ops C oi v a →
      wpAny P md ops Q fuel (listed.setIfInBounds i true) (a.put oi.dst v) w → wpAny P md ops Q (fuel + 1) listed a w := by
  intro fuel
  induction fuel with
  | zero =>
    intro listed a w hC _ hr hy H
    refine ⟨fun h => (by rw [h] at hr; cases hr), fun j hj => ?_⟩
    by_cases hji : j = i
    · subst hji; exact hy.wpOp hi hC H
    · have := ready_mono hj hji
      rw [H.1] at this
      cases this
  | succ fuel ih =>
    intro listed a w hC hfree hr hy H
    refine ⟨fun h => (by rw [h] at hr; cases hr), fun j hj => ?_⟩
    by_cases hji : j = i
    · subst hji; exact hy.wpOp hi hC H
    · have h1 := H.2 j (ready_mono hj hji)
      obtain ⟨hjun, oj, hoj, hall⟩ := mem_ready.1 hj
      have hnot : ∀ e ∈ oj.after, Region.binds md e = true → e.on ≠ i := fun e he hb heq => by
        have h1 := hall e he hb
        have h0 := (mem_ready.1 hr).1
        rw [heq] at h1
        rcases Nat.lt_or_ge i listed.size with h' | h'
        · simp [h'] at h0 h1; rw [h0] at h1; cases h1
        · simp [Array.getElem?_eq_none h'] at h1
      obtain ⟨hap, hkeep⟩ := hfree j oj hoj hji hjun hnot
      have h2 := wpOp_put hoj hap hpan (fun cs b => hsel i oi cs b hi) (fun cs b => hsel j oj cs b hoj) hC (hkeep w hC) hy h1
      have hfree' : ∀ k ok, ops[k]? = some ok → k ≠ i → (listed.setIfInBounds j true).getD k true = false → (∀ e ∈ ok.after, Region.binds md e = true → e.on ≠ i) → oi.apart ops ok = true ∧
          ∀ (w : World), C w → ∀ (a : Act) (K : Act → World → Prop), ok.wp P a w K Q → ok.wp P a w (fun a' w' => C w' ∧ K a' w') Q := fun k ok hk hki hun hno => by
        refine hfree k ok hk hki ?_ hno
        by_cases hjk : j = k
        · subst hjk; exact hjun
        · rw [getD_set_ne true hjk] at hun; exact hun
      refine wpOp_mono (fun a' w' h3 => ih (listed.setIfInBounds j true) a' w' h3.1 hfree' (ready_mono hr (Ne.symm hji)) h3.2.1 ?_) h2
      rw [Array.setIfInBounds_comm _ _ hji]
      exact h3.2.2
def Keeps {α : Type} (P : Program) (m : Sem α) : Prop := ∀ w r w', m.run P w = .ok r w' → w' = w
theorem keeps_pure {α : Type} (x : α) : Keeps P (pure x : Sem α) := by
  intro w r w' h
  rw [Sem.run_pure] at h
  cases h; rfl
theorem keeps_bind {α β : Type} {m : Sem α} {f : α → Sem β} (h1 : Keeps P m) (h2 : ∀ x, Keeps P (f x)) : Keeps P (m >>= f) := by
  intro w r w' h
  rw [Sem.run_bind] at h
  cases hm : m.run P w with
  | ok x w1 =>
    rw [hm, Result.andThen_ok] at h
    rw [h2 x _ _ _ h, h1 _ _ _ hm]
  | halt x w1 => rw [hm] at h; cases h
theorem keeps_halt {α : Type} (x : Halt) : Keeps P (Sem.halt x : Sem α) := by
  intro w r w' h
  cases h
theorem keeps_load (ad : Addr) : Keeps P (load ad) := by
  intro w r w' h
  unfold load at h
  simp only [Sem.run] at h
  split at h
  · cases h; rfl
  · split at h
    · cases h; rfl
    · cases h
theorem keeps_under (t : TypeId) : Keeps P (underlying t) := by
  intro w r w' h
  cases hu : P.underlying t with
  | some d =>
    have h2 : (underlying t).run P w = .ok d w := by rw [run_underlying hu]
    rw [h2] at h
    cases h; rfl
  | none => unfold underlying at h; simp [hu, stuck] at h
theorem keeps_isAgg (t : TypeId) : Keeps P (isAgg t) := by
  unfold isAgg
  refine keeps_bind (keeps_under t) fun x => ?_
  split <;> exact keeps_pure _
theorem keeps_sizeOf (t : TypeId) : Keeps P (sizeOf t) := by
  intro w r w' h
  unfold sizeOf typeInfo at h
  cases hu : P.info? t with
  | some d => simp [hu] at h; exact h.2.symm
  | none => simp [hu, stuck] at h
theorem keeps_loadCells (ad : Addr) : ∀ (n i : Nat) (acc : Array Value), Keeps P (loadCellsFrom ad i n acc)
  | 0, i, acc => keeps_pure _
  | n + 1, i, acc => by
    unfold loadCellsFrom
    exact keeps_bind (keeps_load _) fun v => keeps_loadCells ad n (i + 1) _
theorem keeps_loadAt (t : TypeId) (v : Value) : Keeps P (Instr.loadAt t v) := by
  unfold Instr.loadAt
  refine keeps_bind ?_ fun ad => ?_
  · unfold Instr.sureAddr
    split
    · exact keeps_pure _
    · intro w r w' h; simp [stuck] at h
  · unfold loadVar
    refine keeps_bind (keeps_isAgg t) fun x => ?_
    split
    · refine keeps_bind (keeps_sizeOf t) fun n => keeps_bind (keeps_loadCells _ _ _ _) fun _ => keeps_pure _
    · exact keeps_load _
theorem keeps_stuck {α : Type} (s : String) : Keeps P (stuck s : Sem α) := by
  intro w r w' h
  simp [stuck] at h
theorem keeps_shift (op : BinOp) (k yk : IntKind) (x y : Int) : Keeps P (Op.shift op k x yk y) := by
  unfold Op.shift
  split
  · intro w r w' h
    simp [runtimePanic] at h
  · split <;> first | exact keeps_pure _ | exact keeps_stuck _
theorem keeps_intBits (op : BinOp) (k : IntKind) (x y : Int) : Keeps P (Op.intBits op k x y) := by
  unfold Op.intBits
  split <;> first | exact keeps_pure _ | exact keeps_stuck _
theorem keeps_shlr (op : BinOp) (hop : op = .shl ∨ op = .shr ∨ op = .xor) (t : TypeId) (x y : Value) : Keeps P (binOp op t x y) := by
  rcases hop with rfl | rfl | rfl <;> unfold binOp <;> split <;> (try contradiction) <;> first
    | exact keeps_shift _ _ _ _ _
    | exact keeps_stuck _
    | (split <;> first | exact keeps_stuck _ | exact keeps_intBits _ _ _ _ | (simp only [Op.floatCmp, Op.complexOp]; exact keeps_stuck _))
    | (simp only [Op.stringOp]; exact keeps_stuck _)
    | (intro w r w' h; simp [unsupported] at h)
    | skip
theorem still_keeps {o : Oper} (ho : stillOp o.op = true) {w : World} {a : Act} {K : Act → World → Prop} (h : o.wp P a w K Q) : o.wp P a w (fun a' w' => w' = w ∧ K a' w') Q := by
  have fin : (∀ n w', (execOp a.eval o).run P w = .ok n w' → w' = w ∧ ∃ v, n = .value v) → o.wp P a w (fun a' w' => w' = w ∧ K a' w') Q := by
    intro key
    unfold Oper.wp at *
    cases hr : (execOp a.eval o).run P w with
    | ok n w' =>
      obtain ⟨rfl, v, rfl⟩ := key n w' hr
      rw [hr] at h
      exact ⟨rfl, h⟩
    | halt x w' => rw [hr] at h; cases x <;> simp only [Oper.upon] at h ⊢; exact h
  have valued : ∀ m : Sem Value, Keeps P m → (execOp a.eval o = do pure (.value (← m))) → ∀ n w', (execOp a.eval o).run P w = .ok n w' → w' = w ∧ ∃ v, n = .value v := by
    intro m hm he n w' hrun
    rw [he, Sem.run_bind] at hrun
    cases hl : m.run P w with
    | ok v w1 =>
      rw [hl, Result.andThen_ok, Sem.run_pure] at hrun
      have := hm _ _ _ hl
      cases hrun
      exact ⟨this, v, rfl⟩
    | halt x w1 => rw [hl] at hrun; cases hrun
  refine fin ?_
  unfold stillOp at ho
  split at ho
  · rename_i t x hx
    exact valued _ (keeps_loadAt t (a.eval x)) (by simp only [execOp, hx])
  · rename_i t x ty y hx
    exact valued _ (keeps_bind (m := eqGuard .shl t x ty (a.eval x) (a.eval ty)) (keeps_pure _) fun _ => keeps_shlr .shl (.inl rfl) t (a.eval x) (a.eval ty)) (by simp only [execOp, hx])
  · rename_i t x ty y hx
    exact valued _ (keeps_bind (m := eqGuard .shr t x ty (a.eval x) (a.eval ty)) (keeps_pure _) fun _ => keeps_shlr .shr (.inr (.inl rfl)) t (a.eval x) (a.eval ty)) (by simp only [execOp, hx])
  · rename_i t x ty y hx
    exact valued _ (keeps_bind (m := eqGuard .xor t x ty (a.eval x) (a.eval ty)) (keeps_pure _) fun _ => keeps_shlr .xor (.inr (.inr rfl)) t (a.eval x) (a.eval ty)) (by simp only [execOp, hx])
  · cases ho
/-! ### In order -/
variable {F : Frm} {k : St → Prop} {R0 : Nat → Prop} {w0 : Org}
theorem wo_cases {o : Oper} {rest : List Oper} {st : St} {a : Act} {w : World} (h : WO P F (ops.toList.map (·.dst)) (o :: rest) st k) (hr : Rel F R0 w0 st a w) :
    (Region.wanted o (yielded ops a.tmps) = true ∧ ∃ st1, Rel F R0 w0 st1 a w ∧ dstOk st1 o.dst ∧ stepO P F st1 o.dst o.op fun st' => WO P F (ops.toList.map (·.dst)) rest st' k) ∨
    (Region.wanted o (yielded ops a.tmps) = false ∧ ∃ st1, Rel F R0 w0 st1 a w ∧ dstOk st1 o.dst ∧ WO P F (ops.toList.map (·.dst)) rest (st1.put o.dst (.v undef)) k) := by
  unfold WO at h
  split at h
  · rename_i hg
    exact .inl ⟨by simp [Region.wanted, hg], st, hr, h.1, h.2⟩
  · rename_i j want hg
    split at h
    · exact h.elim
    · rename_i t hj
      obtain ⟨ob, R, hrr⟩ := hr
      split at h
      · rename_i hl
        have hy := yielded_dst (tmps := a.tmps) hj (hrr.env t _ hl).1
        split at h
        · rename_i hw
          subst hw
          exact .inl ⟨by simp [Region.wanted, hg, hy], st, ⟨ob, R, hrr⟩, h.1, h.2⟩
        · rename_i hw
          have hwf : want = false := by simpa using hw
          subst hwf
          exact .inr ⟨by simp [Region.wanted, hg, hy], st, ⟨ob, R, hrr⟩, h.1, h.2⟩
      · rename_i hl
        have hy := yielded_dst (tmps := a.tmps) hj (hrr.env t _ hl).1
        split at h
        · rename_i hw
          subst hw
          exact .inl ⟨by simp [Region.wanted, hg, hy], st, ⟨ob, R, hrr⟩, h.1, h.2⟩
        · rename_i hw
          have hwf : want = true := by simpa using hw
          subst hwf
          exact .inr ⟨by simp [Region.wanted, hg, hy], st, ⟨ob, R, hrr⟩, h.1, h.2⟩
      · rename_i vs hl
        have hy : yielded ops a.tmps j = none := yielded_none hj (hrr.env t _ hl).1
        exact .inr ⟨by simp [Region.wanted, hg, hy], st, ⟨ob, R, hrr⟩, h.1, h.2⟩
      · rename_i x hl
        obtain ⟨_, ht, hf⟩ := h
        have hy := yielded_dst (tmps := a.tmps) hj (hrr.env t _ hl).1
        cases x with
        | true =>
          have h := ht rfl
          have hr' := hrr.know (s' := .tt) hl rfl (fun _ => trivial)
          split at h
          · rename_i hw
            subst hw
            exact .inl ⟨by simp [Region.wanted, hg, hy], _, ⟨ob, R, hr'⟩, h.1, h.2⟩
          · rename_i hw
            have hwf : want = false := by simpa using hw
            subst hwf
            exact .inr ⟨by simp [Region.wanted, hg, hy], _, ⟨ob, R, hr'⟩, h.1, h.2⟩
        | false =>
          have h := hf rfl
          have hr' := hrr.know (s' := .ff) hl rfl (fun _ => trivial)
          split at h
          · rename_i hw
            subst hw
            exact .inl ⟨by simp [Region.wanted, hg, hy], _, ⟨ob, R, hr'⟩, h.1, h.2⟩
          · rename_i hw
            have hwf : want = true := by simpa using hw
            subst hwf
            exact .inr ⟨by simp [Region.wanted, hg, hy], _, ⟨ob, R, hr'⟩, h.1, h.2⟩
      · exact h.elim
theorem stepO_plain {st : St} {dst : Option Tmp} {op : Op} (hop : wless op = true ∨ loadOp op = true) (h : stepO P F st dst op k) : Vok P st op (fun s => k (st.put dst s)) := by
  unfold stepO at h
  split at h <;> first
    | exact rOp_ok h
    | (rcases hop with h9 | h9 <;> simp [wless, loadOp] at h9; done)
    | (rcases hop with h9 | h9
       · simp [wless] at h9
       · simp only [loadOp, bne_iff_ne, ne_eq] at h9
         rw [if_neg h9] at h
         exact rOp_ok h)
theorem ord_sound (hpan : ∀ c a w, ¬ Q (.panic c) a w) (hsel : Region.noSelect ops = true) : ∀ (ord : List Nat) (l : List Oper) (listed : Array Bool) (st : St) (a : Act) (w : World), ordGo md ops ord listed = true → ord.map (fun i => ops[i]?) = l.map some →
    WO P F (ops.toList.map (·.dst)) l st k → Rel F R0 w0 st a w → (∀ st' a' w', k st' → Rel F R0 w0 st' a' w' → Q .normal a' w') → wpAny P md ops Q ord.length listed a w
  | [], l, listed, st, a, w, hB, hl, h, hr, hk => by
    have : l = [] := by simpa using hl.symm
    subst this
    exact ⟨by simpa [ordGo] using hB, hk _ _ _ h hr⟩
  | i :: ord, l, listed, st, a, w, hB, hl, h, hr, hk => by
    obtain ⟨o, rest, rfl, hi, hl'⟩ : ∃ o rest, l = o :: rest ∧ ops[i]? = some o ∧ ord.map (fun i => ops[i]?) = rest.map some := by
      cases l with
      | nil => simp at hl
      | cons o rest => simp only [List.map_cons, List.cons.injEq] at hl; exact ⟨o, rest, rfl, hl.1, hl.2⟩
    simp only [ordGo, hi, Bool.and_eq_true] at hB
    obtain ⟨⟨hready, hkind⟩, hB'⟩ := hB
    have hready' : i ∈ Region.ready md ops listed := by simpa using hready
    have hc := wo_cases h hr
    have next : ∀ {st' : St} {a' : Act} {w' : World}, WO P F (ops.toList.map (·.dst)) rest st' k → Rel F R0 w0 st' a' w' → wpAny P md ops Q ord.length (listed.setIfInBounds i true) a' w' := fun h' hr' =>
      ord_sound hpan hsel ord rest _ _ _ _ hB' hl' h' hr' hk
    have fixed : ∀ (C : World → Prop), C w → (wless o.op = true ∨ loadOp o.op = true ∧ ∀ w', C w' → w' = w) → ∃ v, Fixed P ops C o v a ∧ wpAny P md ops Q ord.length (listed.setIfInBounds i true) (a.put o.dst v) w := by
      intro C hCw hop
      rcases hc with ⟨hw, st1, ⟨ob, R, hr1⟩, hd, hs⟩ | ⟨hw, st1, ⟨ob, R, hr1⟩, hd, hs⟩
      · obtain ⟨s, hs, hv⟩ := stepO_plain (hop.imp id (·.1)) hs
        obtain ⟨hok, hy, hall⟩ := hv R _ a w hr1.env hr1.own
        refine ⟨s.den, .inl ⟨hw, fun w' hw' => ?_⟩, next hs ⟨ob, R, hr1.put (dstOk_of hd) hok⟩⟩
        rcases hop with hop | ⟨_, hop⟩
        · exact hall hop w' o rfl
        · rw [hop w' hw']; exact hy o rfl
      · exact ⟨undef, .inr ⟨hw, rfl⟩, next hs ⟨ob, R, hr1.put (s := .v undef) (dstOk_of hd) trivial⟩⟩
    show wpAny P md ops Q (ord.length + 1) listed a w
    split at hkind
    · rename_i hwl
      obtain ⟨v, hf, hn⟩ := fixed (fun _ => True) trivial (.inl hwl)
      exact wpAny_first hpan hi (Region.noSelect_spec hsel) ord.length listed a w trivial (fun j oj hj hne hun hno => ⟨Region.free_spec hi hkind j oj hj hne hun hno, fun _ _ a K h => Oper.wp_mono (fun _ _ h => ⟨trivial, h⟩) h⟩) hready' hf hn
    · split at hkind
      · rename_i hwl hlo
        simp only [Bool.and_eq_true] at hkind
        obtain ⟨v, hf, hn⟩ := fixed (fun w' => w' = w) rfl (.inr ⟨hlo, fun _ h => h⟩)
        refine wpAny_first (C := fun w' => w' = w) hpan hi (Region.noSelect_spec hsel) ord.length listed a w rfl (fun j oj hj hne hun hno => ⟨Region.free_spec hi hkind.1 j oj hj hne hun hno, fun w' hw' a K h => ?_⟩) hready' hf hn
        obtain rfl : w' = w := hw'
        have h1 := List.all_eq_true.1 hkind.2 j (List.mem_range.2 (Array.getElem?_eq_some_iff.1 hj).1)
        simp only [hj, Bool.or_eq_true, beq_iff_eq, hne, false_or, hun, Bool.false_eq_true] at h1
        rcases h1 with h1 | h1
        · obtain ⟨e, he, hb⟩ := Array.any_eq_true'.1 h1
          simp only [Bool.and_eq_true, beq_iff_eq] at hb
          exact absurd hb.2 (hno e he hb.1)
        · exact still_keeps h1 h
      · have hone : Region.ready md ops listed = [i] := by simpa using hkind
        refine ⟨fun h0 => (by rw [hone] at h0; cases h0), fun j hj => ?_⟩
        rw [hone] at hj
        obtain rfl : j = i := by simpa using hj
        unfold wpOp
        simp only [hi]
        rcases hc with ⟨hw, st1, hr1, hd, hs⟩ | ⟨hw, st1, ⟨ob, R, hr1⟩, hd, hs⟩
        · rw [if_pos hw]
          exact .inl (stepO_good hd hs _ _ _ _ o _ _ rfl rfl hr1 fun st' a' w' h' hr' => next h' hr')
        · rw [if_neg (by rw [hw]; exact Bool.false_ne_true)]
          exact next hs ⟨ob, R, hr1.put (s := .v undef) (dstOk_of hd) trivial⟩
theorem Sat.region_ord {K : Exit → St → Prop} {st : St} {id : Nat} {l : List Oper} (ord : List Nat) (hm : P.follows .mixedOrders = true) (hB : ordB l.toArray ord = true) (hlen : ord.length = l.length) (hl : ord.all (fun i => decide (i < l.length)) = true) (hpan : ∀ c st, ¬ K (.panic c) st)
    (h : ∀ k : St → Prop, (∀ st', K .normal st' → k st') → WO P F (l.map (·.dst)) (ord.map fun i => l.getD i default) st k) : Sat P F (.region id l.toArray true) st K := by
  have hl' : ord.map (fun i => l[i]?) = (ord.map fun i => l.getD i default).map some := by
    rw [List.map_map]
    apply List.map_congr_left
    intro i hi
    have := List.all_eq_true.1 hl i hi
    simp only [decide_eq_true_eq] at this
    simp [List.getD, this]
  rintro R0 w0 a w ⟨ob, R, hr⟩
  simp only [ordB, Bool.and_eq_true] at hB
  have hdrew : Grown w { w with drawn := w.drawn + 1 } := ⟨rfl, rfl, rfl, Nat.le_refl _, fun _ _ _ => rfl⟩
  refine wp_region_any hm ?_
  have := ord_sound (P := P) (F := F) (Q := fun e a' w' => ∃ st', K e st' ∧ Rel F R0 w0 st' a' w') (k := K .normal) (fun c a w ⟨st', hk, _⟩ => hpan c st' hk) hB.1 ord (ord.map fun i => l.getD i default) _ st a { w with drawn := w.drawn + 1 } hB.2 (by simpa using hl') (by simpa using h _ fun _ h => h)
    ⟨ob, R, hr.grown hdrew⟩ (fun st' a' w' hk hr' => ⟨st', hk, hr'⟩)
  rw [hlen] at this
  simpa using this
end
end Eng
end Go.Proofs.YtpkmnggfomllhaaDoor
