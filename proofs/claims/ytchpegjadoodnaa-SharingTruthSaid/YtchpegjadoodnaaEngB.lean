/- The evaluator, part B: operations that only yield a value, and that they do. -/
import Derived.Test.YtchpegjadoodnaaEngA
set_option linter.unusedSimpArgs false
set_option linter.unusedVariables false
namespace Go.Proofs.Ytchpegjadoodnaa
namespace Eng

def cellsOf (len sz : Nat) (rd : Nat → Nat → SV) : List Value := (List.range (len * sz)).map fun q => (rd (q / sz) (q % sz)).den

def Own.ok (R : Nat → Prop) (B : Nat) (w : World) : Own → Prop
  | .gone => True
  | .box blk ty cs => B ≤ blk ∧ ¬ R blk ∧ w.heap[blk]? = some (.cells (cs.map SV.den).toArray ty (0, 0)) ∧ ∀ c ∈ cs, c.den.oneCell' = true ∧ c.ok R w
  | .row a e len cap sz rd => w.ownsRow B e sz (.slice a len cap) len (cellsOf len sz rd) ∧ (∀ g, a = some g → ¬ R g.block) ∧ ∀ i j, i < len → j < sz → (rd i j).den.oneCell' = true ∧ (rd i j).ok R w
  | .frz a len cap sz rd => (SV.sl a len cap sz rd).ok R w
  | .res blk p => B ≤ blk ∧ ¬ R blk ∧ blk < w.heap.size ∧ ∀ w' : World, (∀ b, (R b ∨ b = blk) → w'.heap[b]? = w.heap[b]?) → p w'

def OwnsOk (R : Nat → Prop) (B : Nat) (own : List Own) (w : World) : Prop := ∀ (id : Nat) (o : Own), own[id]? = some o → o.ok R B w

/-- the operation yields v and leaves the world -/
def Yields (P : Program) (w : World) (a : Act) (op : Op) (v : Value) : Prop := ∀ o : Oper, o.op = op → (execOp a.eval o).run P w = .ok (.value v) w

/-- in every state of memory that is as known, the operation yields what K takes -/
def Vok (P : Program) (st : St) (op : Op) (K : SV → Prop) : Prop :=
  ∃ s, K s ∧ ∀ R B a w, EnvOk R st.env a w → OwnsOk R B st.own w → s.ok R w ∧ Yields P w a op s.den

def evs (env : List (Nat × SV)) : List Operand → Option (List SV)
  | [] => some []
  | x :: xs => match ev env x, evs env xs with
    | some s, some l => some (s :: l)
    | _, _ => none
theorem evs_ok {R : Nat → Prop} {env : List (Nat × SV)} {a : Act} {w : World} (h : EnvOk R env a w) : ∀ (xs : List Operand) (l : List SV), evs env xs = some l → xs.map a.eval = l.map SV.den ∧ ∀ s ∈ l, s.ok R w
  | [], l, he => by simp only [evs, Option.some.injEq] at he; subst he; simp
  | x :: xs, l, he => by
    unfold evs at he
    split at he
    · rename_i s l' hs hl
      simp only [Option.some.injEq] at he
      subst he
      obtain ⟨h1, h2⟩ := evs_ok h xs l' hl
      have h3 := ev_ok h hs
      exact ⟨by simp [h1, h3.1], fun c hc => (List.mem_cons.1 hc).elim (fun e => e ▸ h3.2) (h2 c)⟩
    · cases he

def toB : SV → Option Bool
  | .tt => some true
  | .ff => some false
  | .b x => some x
  | _ => none
theorem toB_den {s : SV} {x : Bool} (h : toB s = some x) : s.den = .bool x := by cases s <;> simp_all [toB, SV.den]

/-- a slice as it is read: address, length, capacity, cells of an element, what it reads -/
def asRead (own : List Own) : SV → Option (Option Addr × Nat × Nat × Nat × (Nat → Nat → SV))
  | .sl a len cap sz rd => some (a, len, cap, sz, rd)
  | .os id a len cap => match own[id]? with
    | some (.frz a' len' cap' sz rd) => if a' = a ∧ len' = len ∧ cap' = cap then some (a', len', cap', sz, rd) else none
    | _ => none
  | _ => none

def ibin (op : BinOp) (k : IntKind) (x y : Int) (K : SV → Prop) : Prop :=
  match op with
  | .add => K (.i k (k.wrap (x + y)))
  | .sub => K (.i k (k.wrap (x - y)))
  | .mul => K (.i k (k.wrap (x * y)))
  | .quo => y ≠ 0 ∧ K (.i k (k.wrap (x.tdiv y)))
  | .rem => y ≠ 0 ∧ K (.i k (x.tmod y))
  | .and => K (.i k (bits .and k x y))
  | .or => K (.i k (bits .or k x y))
  | .xor => K (.i k (bits .xor k x y))
  | .andNot => K (.i k (bits .andNot k x y))
  | .eql => K (.b (x == y))
  | .neq => K (.b (x != y))
  | .lss => K (.b (decide (x < y)))
  | .leq => K (.b (decide (x ≤ y)))
  | .gtr => K (.b (decide (y < x)))
  | .geq => K (.b (decide (y ≤ x)))
  | _ => False

def vBin (P : Program) (st : St) (xt : TypeId) (op : BinOp) (x y : Operand) (K : SV → Prop) : Prop :=
  match ev st.env x, ev st.env y with
  | some (.i k p), some (.i k' q) =>
    match op with
    | .shl => 0 ≤ q ∧ K (.i k (k.wrap (p * 2 ^ (min q.toNat k.bits))))
    | .shr => 0 ≤ q ∧ K (.i k (p.fdiv (2 ^ (min q.toNat k.bits))))
    | _ => k = k' ∧ ibin op k p q K
  | some s, some t =>
    match toB s, toB t with
    | some p, some q => tk P xt = .bool ∧ match op with
      | .eql => K (.b (p == q))
      | .neq => K (.b (p != q))
      | _ => False
    | _, _ => False
  | _, _ => False

theorem tk_bool {P : Program} {t : TypeId} (h : tk P t = .bool) : P.underlying t = some .bool := by
  unfold tk at h; split at h <;> simp_all

theorem run_equal_bool {P : Program} {t : TypeId} (hu : P.underlying t = some .bool) (p q : Bool) (w : World) : (Op.equal t (.bool p) (.bool q)).run P w = .ok (p == q) w := by
  unfold Op.equal
  show (Op.equalIn (9999 + 1) t (.bool p) (.bool q)).run P w = _
  rw [Op.equalIn]
  simp [run_underlying hu]

theorem vBin_ok {P : Program} {st : St} {op : BinOp} {xt yt : TypeId} {x y : Operand} {K : SV → Prop} (h : vBin P st xt op x y K) : Vok P st (.binOp op xt x y yt) K := by
  unfold vBin at h
  split at h
  · rename_i k p k' q hx hy
    have key : ∀ s : SV, K s → (∀ R w, s.ok R w) → (∀ w, (do eqGuard op xt x y (.int k p) (.int k' q); binOp op xt (.int k p) (.int k' q) : Sem Value).run P w = .ok s.den w) → Vok P st (.binOp op xt x y yt) K := by
      intro s hk hs hr
      refine ⟨s, hk, fun R B a w he _ => ⟨hs _ _, fun o ho => ?_⟩⟩
      have h1 := (ev_ok he hx).1
      have h2 := (ev_ok he hy).1
      have hr' := hr w
      unfold execOp
      rw [ho]
      simp only [h1, h2, SV.den] at hr' ⊢
      rw [Sem.run_bind, hr']
      rfl
    split at h
    · obtain ⟨h0, h⟩ := h
      refine key _ h (fun _ _ => trivial) (fun w => ?_)
      simp [eqGuard, binOp, Op.shift, show ¬ q < 0 by omega, SV.den]
    · obtain ⟨h0, h⟩ := h
      refine key _ h (fun _ _ => trivial) (fun w => ?_)
      simp [eqGuard, binOp, Op.shift, show ¬ q < 0 by omega, SV.den]
    · obtain ⟨rfl, h⟩ := h
      unfold ibin at h
      split at h <;> first
        | exact h.elim
        | (obtain ⟨hn, h⟩ := h
           refine key _ h (fun _ _ => trivial) (fun w => ?_)
           simp [eqGuard, binOp, Op.intDiv, hn, SV.den])
        | (refine key _ h (fun _ _ => trivial) (fun w => ?_)
           simp [eqGuard, binOp, Op.intArith, Op.intBits, Op.intCmp, bits, SV.den])
  · rename_i s t hx hy
    split at h
    · rename_i p q hp hq
      have key : ∀ s' : SV, K s' → (∀ R w, s'.ok R w) → (∀ w, (do eqGuard op xt x y (.bool p) (.bool q); binOp op xt (.bool p) (.bool q) : Sem Value).run P w = .ok s'.den w) → Vok P st (.binOp op xt x y yt) K := by
        intro s' hk hs hr
        refine ⟨s', hk, fun R B a w he _ => ⟨hs _ _, fun o ho => ?_⟩⟩
        have h1 := (ev_ok he hx).1
        have h2 := (ev_ok he hy).1
        rw [toB_den hp] at h1
        rw [toB_den hq] at h2
        have hr' := hr w
        unfold execOp
        rw [ho]
        simp only [h1, h2, SV.den] at hr' ⊢
        rw [Sem.run_bind, hr']
        rfl
      obtain ⟨hb, h⟩ := h
      have hu := tk_bool hb
      split at h
      · refine key _ h (fun _ _ => trivial) (fun w => ?_)
        simp only [eqGuard, binOp, Sem.run_bind, run_equal_bool hu]
        rfl
      · refine key _ h (fun _ _ => trivial) (fun w => ?_)
        simp only [eqGuard, binOp, Sem.run_bind, run_equal_bool hu]
        rfl
      · exact h.elim
    · exact h.elim
  · exact h.elim
end Eng
end Go.Proofs.Ytchpegjadoodnaa
