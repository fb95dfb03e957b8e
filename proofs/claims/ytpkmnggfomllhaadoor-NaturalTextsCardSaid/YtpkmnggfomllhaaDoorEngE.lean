/- The evaluator, part E: lengths, greatest and least, slices of slices, struct literals; all operations that only yield a value. -/
import Derived.Test.YtpkmnggfomllhaaDoorEngD
set_option linter.unusedSimpArgs false
set_option linter.unusedVariables false
namespace Go.Proofs.YtpkmnggfomllhaaDoor
namespace Eng
variable {P : Program} {st : St} {K : SV → Prop}
def vLen (P : Program) (st : St) (t : TypeId) (x : Operand) (K : SV → Prop) : Prop :=
  match tk P t, ev st.env x with
  | .slice _, some (.sl _ len _ _ _) => K (.i .i64 len)
  | .slice _, some (.os _ _ len _) => K (.i .i64 len)
  | .slice _, some (.ow _ _ _ _ len _) => K (.i .i64 len)
  | .str, some (.v (.string s)) => K (.i .i64 s.size)
  | .array n _, some _ => K (.i .i64 n)
  | _, _ => False
theorem vLen_ok {t : TypeId} {x : Operand} (h : vLen P st t x K) : Vok P st (.call { callee := .builtin .len, args := #[x], argTypes := #[t] }) K := by
  unfold vLen at h
  split at h
  · rename_i e a len cap sz rd ht hx
    exact ⟨_, h, fun R B a w he _ => ⟨trivial, yall fun w o ho => by simp [execOp, ho, resolve, invoke, builtin, Builtin.len_, (ev_ok he hx).1, SV.den, run_underlying (tk_slice ht), goInt]⟩⟩
  · rename_i e id a len cap ht hx
    exact ⟨_, h, fun R B a w he _ => ⟨trivial, yall fun w o ho => by simp [execOp, ho, resolve, invoke, builtin, Builtin.len_, (ev_ok he hx).1, SV.den, run_underlying (tk_slice ht), goInt]⟩⟩
  · rename_i e id a sz off len cap ht hx
    exact ⟨_, h, fun R B a w he _ => ⟨trivial, yall fun w o ho => by simp [execOp, ho, resolve, invoke, builtin, Builtin.len_, (ev_ok he hx).1, SV.den, run_underlying (tk_slice ht), goInt]⟩⟩
  · rename_i s ht hx
    exact ⟨_, h, fun R B a w he _ => ⟨trivial, yall fun w o ho => by simp [execOp, ho, resolve, invoke, builtin, Builtin.len_, (ev_ok he hx).1, SV.den, run_underlying (tk_str ht), goInt]⟩⟩
  · rename_i n e s ht hx
    exact ⟨_, h, fun R B a w he _ => ⟨trivial, yall fun w o ho => by simp [execOp, ho, resolve, invoke, builtin, Builtin.len_, run_underlying (tk_array ht), goInt, SV.den]⟩⟩
  · exact h.elim
def vCap (P : Program) (st : St) (t : TypeId) (x : Operand) (K : SV → Prop) : Prop :=
  match tk P t, ev st.env x with
  | .slice _, some (.sl _ _ cap _ _) => K (.i .i64 cap)
  | .slice _, some (.os _ _ _ cap) => K (.i .i64 cap)
  | _, _ => False
theorem vCap_ok {t : TypeId} {x : Operand} (h : vCap P st t x K) : Vok P st (.call { callee := .builtin .cap, args := #[x], argTypes := #[t] }) K := by
  unfold vCap at h
  split at h
  · rename_i e a len cap sz rd ht hx
    exact ⟨_, h, fun R B a w he _ => ⟨trivial, yone rfl fun o ho => by simp [execOp, ho, resolve, invoke, builtin, Builtin.cap_, (ev_ok he hx).1, SV.den, run_underlying (tk_slice ht), goInt]⟩⟩
  · rename_i e id a len cap ht hx
    exact ⟨_, h, fun R B a w he _ => ⟨trivial, yone rfl fun o ho => by simp [execOp, ho, resolve, invoke, builtin, Builtin.cap_, (ev_ok he hx).1, SV.den, run_underlying (tk_slice ht), goInt]⟩⟩
  · exact h.elim
def vMax (st : St) (x y : Operand) (K : SV → Prop) : Prop :=
  match ev st.env x, ev st.env y with
  | some (.i k p), some (.i _ q) => K (.i k (max p q))
  | _, _ => False
def vMin (st : St) (x y : Operand) (K : SV → Prop) : Prop :=
  match ev st.env x, ev st.env y with
  | some (.i k p), some (.i _ q) => K (.i k (min p q))
  | _, _ => False
theorem vMax_ok {t : Array TypeId} {x y : Operand} (h : vMax st x y K) : Vok P st (.call { callee := .builtin .max, args := #[x, y], argTypes := t }) K := by
  unfold vMax at h
  split at h
  · rename_i k p k' q hx hy
    refine ⟨_, h, fun R B a w he _ => ⟨trivial, yone rfl fun o ho => ?_⟩⟩
    simp [execOp, ho, resolve, invoke, builtin, Builtin.max_, Builtin.max2, (ev_ok he hx).1, (ev_ok he hy).1, SV.den]
    omega
  · exact h.elim
theorem vMin_ok {t : Array TypeId} {x y : Operand} (h : vMin st x y K) : Vok P st (.call { callee := .builtin .min, args := #[x, y], argTypes := t }) K := by
  unfold vMin at h
  split at h
  · rename_i k p k' q hx hy
    refine ⟨_, h, fun R B a w he _ => ⟨trivial, yone rfl fun o ho => ?_⟩⟩
    simp [execOp, ho, resolve, invoke, builtin, Builtin.min_, Builtin.min2, (ev_ok he hx).1, (ev_ok he hy).1, SV.den]
    omega
  · exact h.elim
/-! ### A slice of a slice that is only read -/
def bound (env : List (Nat × SV)) (o : Option Operand) (d : Int) : Option Int :=
  match o with
  | none => some d
  | some x => match ev env x with
    | some (.i _ n) => some n
    | _ => none
theorem bound_ok {env : List (Nat × SV)} {o : Option Operand} {d n : Int} (h : bound env o d = some n) : (o = none ∧ n = d) ∨ ∃ x k, o = some x ∧ ev env x = some (.i k n) := by
  unfold bound at h
  split at h
  · left; simp_all
  · rename_i x
    right
    split at h
    · rename_i k m hx
      simp only [Option.some.injEq] at h
      subst h
      exact ⟨x, k, rfl, hx⟩
    · cases h
def vSlice (P : Program) (st : St) (t : TypeId) (x : Operand) (lo hi : Option Operand) (K : SV → Prop) : Prop :=
  match tk P t, ev st.env x with
  | .slice e, some s =>
    (match asRead st.own s with
    | some (a, len, cap, sz, rd) => (match bound st.env lo 0, bound st.env hi len with
      | some l, some h => (0 ≤ l ∧ l ≤ h ∧ h ≤ (len : Int)) ∧ (tsz P e = sz ∧ 0 < sz) ∧ K (.sl (if cap = l.toNat then a else a.map (·.add (l.toNat * sz))) (h.toNat - l.toNat) (cap - l.toNat) sz (fun i j => rd (l.toNat + i) j))
      | _, _ => False)
    | none => False)
  | .str, some (.v (.string s)) => (match bound st.env lo 0, bound st.env hi s.size with
      | some l, some h => (0 ≤ l ∧ l ≤ h ∧ h ≤ (s.size : Int)) ∧ K (.v (.string (s.extract l.toNat h.toNat)))
      | _, _ => False)
  | _, _ => False
theorem run_sliceBounds {w : World} {isSlice : Bool} {len cap : Nat} {lo hi : Option Value} {l h : Int} (hl : (lo = none ∧ l = 0) ∨ ∃ k, lo = some (.int k l)) (hh : (hi = none ∧ h = (len : Int)) ∨ ∃ k, hi = some (.int k h))
    (h0 : 0 ≤ l) (h1 : l ≤ h) (h2 : h ≤ (len : Int)) (hc : len ≤ cap) : (Instr.sliceBounds isSlice len cap lo hi none).run P w = .ok (l.toNat, h.toNat, cap) w := by
  have e1 : h ≤ (cap : Int) := by omega
  rcases hl with ⟨rfl, rfl⟩ | ⟨k, rfl⟩ <;> rcases hh with ⟨rfl, rfl⟩ | ⟨k', rfl⟩
  · simp [Instr.sliceBounds]
  · simp [Instr.sliceBounds, Instr.sliceBound, asIntOf, e1, show 0 ≤ h by omega]
  · simp [Instr.sliceBounds, Instr.sliceBound, asIntOf, h0, h1]
  · simp [Instr.sliceBounds, Instr.sliceBound, asIntOf, h0, h1, e1, show 0 ≤ h by omega]
    omega
theorem eval_bound {R : Nat → Prop} {a : Act} {w : World} (he : EnvOk R st.env a w) {o : Option Operand} {d n : Int} (h : bound st.env o d = some n) : (o.map a.eval = none ∧ n = d) ∨ ∃ k, o.map a.eval = some (.int k n) := by
  rcases bound_ok h with ⟨rfl, rfl⟩ | ⟨x, k, rfl, hx⟩
  · exact .inl ⟨rfl, rfl⟩
  · exact .inr ⟨k, by simp [(ev_ok he hx).1, SV.den]⟩
theorem vSlice_ok {t : TypeId} {x : Operand} {lo hi : Option Operand} (h : vSlice P st t x lo hi K) : Vok P st (.slice t x lo hi none) K := by
  unfold vSlice at h
  split at h
  · rename_i e s ht hx
    split at h
    · rename_i ad len cap sz rd hr
      split at h
      · rename_i l hh hl1 hh1
        obtain ⟨⟨h0, h1, h2⟩, ⟨hz, hz0⟩, h⟩ := h
        subst hz
        refine ⟨_, h, fun R B a w he ho => ?_⟩
        obtain ⟨hd, hlc, hcm, hok⟩ := asRead_ok hr ho (ev_ok he hx).2
        refine ⟨⟨by omega, by omega, ?_⟩, yone rfl fun o ho' => ?_⟩
        · rcases hok with hok | ⟨blk, off, rfl, hR, hc⟩
          · exact .inl (by omega)
          · by_cases hlh : l = hh
            · exact .inl (by omega)
            · refine .inr ⟨blk, off + l.toNat * tsz P e, ?_, hR, fun i j hi hj => ?_⟩
              · rw [if_neg (by omega)]; simp [Addr.add_lit]
              · have := hc (l.toNat + i) j (by omega) hj
                rw [Nat.add_mul, ← Nat.add_assoc] at this
                exact this
        · have hb := run_sliceBounds (P := P) (w := w) (isSlice := true) (eval_bound he hl1) (eval_bound he hh1) h0 h1 h2 hlc
          have hs := run_sizeOf hz0 w
          simp [execOp, ho', (ev_ok he hx).1, hd, Instr.sliceAt, Instr.slice, run_underlying (tk_slice ht), hb, hs, SV.den]
      · exact h.elim
    · exact h.elim
  · rename_i s ht hx
    split at h
    · rename_i l hh hl1 hh1
      obtain ⟨⟨h0, h1, h2⟩, h⟩ := h
      refine ⟨_, h, fun R B a w he ho => ⟨trivial, yone rfl fun o ho' => ?_⟩⟩
      have hb := run_sliceBounds (P := P) (w := w) (isSlice := false) (cap := s.size) (eval_bound he hl1) (eval_bound he hh1) h0 h1 h2 (Nat.le_refl _)
      simp [execOp, ho', (ev_ok he hx).1, Instr.sliceAt, Instr.slice, run_underlying (tk_str ht), hb, SV.den]
    · exact h.elim
  · exact h.elim
/-! ### Struct literals -/
def tz (P : Program) (t : TypeId) : List SV := match (P.info? t).bind (·.zero) with | some z => z.cells.toList.map svz | none => []
def flat : SV → List SV
  | .agg n rd => (List.range n).map rd
  | s => [s]
theorem den_flat (s : SV) (hs : ∀ n rd, s ≠ .tup n rd) (hv : ∀ cs, s ≠ .v (.agg cs)) : s.den.cells.toList = (flat s).map SV.den := by
  cases s with
  | v x => cases x <;> simp_all [flat, SV.den, Value.cells]
  | _ => simp_all [flat, SV.den, Value.cells]
def flatOk : SV → Bool
  | .tup _ _ => false
  | .v (.agg _) => false
  | _ => true
theorem den_flat' {s : SV} (h : flatOk s = true) : s.den.cells.toList = (flat s).map SV.den := by
  refine den_flat s ?_ ?_ <;> intros <;> intro e <;> subst e <;> simp [flatOk] at h
def lay (l : List SV) (off : Nat) (cs : List SV) : List SV := l.take off ++ cs ++ l.drop (off + cs.length)
def fillS (place : Nat → Option (Nat × Nat)) (l : List SV) : List (Nat × Option SV) → Option (List SV)
  | [] => some l
  | (i, some s) :: rest => match place i with
    | some (off, size) => if flatOk s = true ∧ (flat s).length = size ∧ off + size ≤ l.length then fillS place (lay l off (flat s)) rest else none
    | none => none
  | (_, none) :: _ => none
theorem foldl_lay (off : Nat) : ∀ (vs : List Value) (k : Nat) (arr : Array Value), off + k + vs.length ≤ arr.size →
    ((vs.zipIdx k).foldl (fun cs (p : Value × Nat) => cs.setIfInBounds (off + p.2) p.1) arr).toList = arr.toList.take (off + k) ++ vs ++ arr.toList.drop (off + k + vs.length)
  | [], k, arr, _ => by simp
  | v :: rest, k, arr, h => by
    simp only [List.zipIdx_cons, List.foldl_cons, List.length_cons] at h ⊢
    rw [foldl_lay off rest (k + 1) _ (by simp; omega)]
    simp only [Array.toList_setIfInBounds]
    apply List.ext_getElem?
    intro q
    simp only [List.getElem?_append, List.length_append, List.length_take, List.length_set, Array.length_toList, List.getElem?_take, List.getElem?_drop, List.getElem?_set, List.getElem?_cons, List.length_cons]
    have e1 : min (off + (k + 1)) arr.size = off + k + 1 := by omega
    have e2 : min (off + k) arr.size = off + k := by omega
    rw [e1, e2]
    by_cases h1 : q < off + k
    · simp [show q < off + k + 1 + rest.length by omega, show q < off + k + 1 by omega, show q < off + (k + 1) by omega, h1, show q < off + k + (rest.length + 1) by omega, show off + k ≠ q by omega]
    · by_cases h2 : q = off + k
      · subst h2
        simp [show off + k < off + k + 1 + rest.length by omega, show off + k < off + (k + 1) by omega, show off + k < arr.size by omega]
      · by_cases h3 : q < off + k + (rest.length + 1)
        · simp [show q < off + k + 1 + rest.length by omega, show ¬ q < off + k + 1 by omega, h1, h3, show q - (off + k) ≠ 0 by omega, show q - (off + k) - 1 = q - (off + k + 1) by omega]
        · simp [show ¬ q < off + k + 1 + rest.length by omega, h3, show off + (k + 1) + rest.length + (q - (off + k + 1 + rest.length)) = off + k + (rest.length + 1) + (q - (off + k + (rest.length + 1))) by omega]
          omega
theorem fill_ok {place : Nat → Option (Nat × Nat)} : ∀ (parts : List (Nat × Option SV)) (vals : List (Nat × Value)) (l l' : List SV), fillS place l parts = some l' →
    (vals = parts.map fun p => (p.1, (p.2.getD default).den)) → Instr.fill place (l.map SV.den).toArray vals = some (l'.map SV.den).toArray
  | [], vals, l, l', h, hv => by
    simp only [fillS, Option.some.injEq] at h
    subst h; subst hv; rfl
  | (i, none) :: rest, vals, l, l', h, _ => by simp [fillS] at h
  | (i, some s) :: rest, vals, l, l', h, hv => by
    subst hv
    simp only [fillS] at h
    cases hp : place i with
    | none => rw [hp] at h; cases h
    | some p =>
      obtain ⟨off, size⟩ := p
      rw [hp] at h
      simp only [] at h
      split at h
      · rename_i hc
        obtain ⟨hf, hs, hb⟩ := hc
        have hfl := den_flat' hf
        have hsz : s.den.cells.size = size := by rw [← Array.length_toList, hfl, List.length_map, hs]
        simp only [List.map_cons, Instr.fill, hp, Option.getD_some]
        have hcond : ¬ (s.den.cells.size ≠ size ∨ off + s.den.cells.size > (l.map SV.den).toArray.size) := by
          rw [hsz]; simp; omega
        have hc2 : (decide (s.den.cells.size ≠ size) || decide (off + s.den.cells.size > (l.map SV.den).toArray.size)) = false := by
          simp only [Bool.or_eq_false_iff, decide_eq_false_iff_not]
          exact ⟨fun h => hcond (.inl h), fun h => hcond (.inr h)⟩
        simp only [hc2]
        have hcells : (s.den.cells.zipIdx.foldl (fun cs (x : Value × Nat) => cs.setIfInBounds (off + x.2) x.1) (l.map SV.den).toArray) = ((lay l off (flat s)).map SV.den).toArray := by
          rw [← Array.foldl_toList]
          apply Array.ext'
          rw [Array.toList_zipIdx, foldl_lay off _ 0 _ (by rw [Array.length_toList, hsz]; simp; omega), hfl]
          simp [lay]
        have ih := fill_ok rest _ (lay l off (flat s)) l' h rfl
        rw [← ih]
        simp only [Bool.false_eq_true, if_false]
        congr 1
      · cases h
def arrOf (P : Program) (t : TypeId) : Option TypeId := match tk P t with | .array _ e => some e | _ => none
def placesOf (P : Program) (t : TypeId) : Nat → Option (Nat × Nat) := fun i => match arrOf P t with
  | some e => some (i * tsz P e, tsz P e)
  | none => (fieldOf P t i).map fun p => (p.1, tsz P p.2)
def fieldsFull (P : Program) (t : TypeId) : Bool := match tk P t with | .struct fs => fs.all fun p => decide (0 < tsz P p.2) | .array _ e => decide (0 < tsz P e) | _ => false
def vBuild (P : Program) (st : St) (t : TypeId) (parts : List (Nat × Operand)) (K : SV → Prop) : Prop :=
  fieldsFull P t = true ∧ 0 < tsz P t ∧ (tz P t ≠ []) ∧
  match fillS (placesOf P t) (tz P t) (parts.map fun p => (p.1, ev st.env p.2)) with
  | some l => K (.agg l.length (fun j => l.getD j default))
  | none => False
theorem fillS_some {place : Nat → Option (Nat × Nat)} : ∀ (parts : List (Nat × Option SV)) (l l' : List SV), fillS place l parts = some l' → (∀ p ∈ parts, p.2.isSome) ∧ ∀ (Q : SV → Prop), (∀ c ∈ l, Q c) → (∀ p ∈ parts, ∀ s, p.2 = some s → ∀ c ∈ flat s, Q c) → ∀ c ∈ l', Q c
  | [], l, l', h => by
    simp only [fillS, Option.some.injEq] at h
    subst h
    exact ⟨by simp, fun Q h1 _ => h1⟩
  | (i, none) :: rest, l, l', h => by simp [fillS] at h
  | (i, some s) :: rest, l, l', h => by
    simp only [fillS] at h
    cases hp : place i with
    | none => rw [hp] at h; cases h
    | some p =>
      rw [hp] at h
      simp only [] at h
      split at h
      · obtain ⟨h1, h2⟩ := fillS_some rest _ _ h
        refine ⟨fun p hm => ?_, fun Q hl hq => h2 Q (fun c hc => ?_) (fun p hm => hq p (List.mem_cons_of_mem _ hm))⟩
        · rcases List.mem_cons.1 hm with rfl | hm
          · rfl
          · exact h1 p hm
        · unfold lay at hc
          rcases List.mem_append.1 hc with hc | hc
          · rcases List.mem_append.1 hc with hc | hc
            · exact hl c (List.mem_of_mem_take hc)
            · exact hq _ (List.mem_cons_self ..) s rfl c hc
          · exact hl c (List.mem_of_mem_drop hc)
      · cases h
theorem tz_info {t : TypeId} (h : tz P t ≠ []) : ∃ i z, P.info? t = some i ∧ i.zero = some z ∧ z.cells.toList = (tz P t).map SV.den := by
  unfold tz at *
  cases hi : P.info? t with
  | none => simp [hi] at h
  | some i =>
    cases hz : i.zero with
    | none => simp [hi, hz] at h
    | some z => exact ⟨i, z, rfl, hz, by simp [hz, Function.comp_def, den_svz]⟩
theorem flat_ok {R : Nat → Prop} {w : World} {s : SV} (h : s.ok R w) : ∀ c ∈ flat s, c.ok R w := by
  cases s <;> simp only [flat, List.mem_singleton, forall_eq] <;> try exact h
  intro c hc
  obtain ⟨j, hj, rfl⟩ := List.mem_map.1 hc
  exact h j (by simpa using hj)
theorem vBuild_ok {t : TypeId} {parts : Array (Nat × Operand)} (h : vBuild P st t parts.toList K) : Vok P st (.build t parts) K := by
  unfold vBuild at h
  obtain ⟨hff, hz, htz, h⟩ := h
  split at h
  · rename_i l hl
    obtain ⟨i, z, hi, hiz, hzc⟩ := tz_info htz
    obtain ⟨hsome, hall⟩ := fillS_some _ _ _ hl
    refine ⟨_, h, fun R B a w he ho => ⟨fun j hj => ?_, yall fun w o ho' => ?_⟩⟩
    · have hget : l[j]? = some (l.getD j default) := by simp [List.getD, hj]
      refine hall (fun c => c.ok R w) ?_ ?_ _ (List.mem_of_getElem? hget)
      · intro c hc
        unfold tz at hc
        rw [hi] at hc
        simp only [Option.bind_some, hiz] at hc
        obtain ⟨x, _, rfl⟩ := List.mem_map.1 hc
        exact ok_svz _ _ _
      · intro p hp s hs c hc
        obtain ⟨q, _, rfl⟩ := List.mem_map.1 hp
        exact flat_ok (ev_ok he hs).2 c hc
    · unfold fieldsFull at hff
      split at hff
      · rename_i fs hfs
        obtain ⟨gs, hu, rfl⟩ := tk_struct hfs
        have hvals : (parts.map fun x => (x.1, a.eval x.2)).toList = (parts.toList.map fun p => (p.1, ev st.env p.2)).map fun p => (p.1, (p.2.getD default).den) := by
          rw [Array.toList_map, List.map_map]
          apply List.map_congr_left
          intro p hp
          have := hsome _ (List.mem_map.2 ⟨p, hp, rfl⟩)
          obtain ⟨s, hs⟩ := Option.isSome_iff_exists.1 this
          simp only [] at hs
          simp [hs, (ev_ok he hs).1]
        have hmap : ∀ (l : List Field), (∀ g ∈ l, 0 < tsz P g.type) → (l.mapM fun f => do pure (f.offset, ← sizeOf f.type) : Sem (List (Nat × Nat))).run P w = .ok (l.map fun f => (f.offset, tsz P f.type)) w := by
          intro l
          induction l with
          | nil => intro _; rfl
          | cons g rest ih =>
            intro hg
            have h1 := run_sizeOf (hg g (by simp)) w
            have h2 := ih (fun x hx => hg x (by simp [hx]))
            simp only [List.mapM_cons, Sem.run_bind, h1, Result.andThen_ok, Sem.run_pure, h2, List.map_cons]
        have hpos : ∀ g ∈ gs.toList, 0 < tsz P g.type := by
          intro g hg
          have := List.all_eq_true.1 hff _ (List.mem_map.2 ⟨g, hg, rfl⟩)
          simpa using this
        have hm := hmap gs.toList hpos
        have hplace : (fun i => ((gs.toList.map fun f => (f.offset, tsz P f.type)).toArray)[i]?) = placesOf P t := by
          funext i
          unfold placesOf fieldOf arrOf
          rw [hfs]
          simp [Function.comp_def]
        have hfill := fill_ok _ _ _ _ hl hvals
        rw [← hplace] at hfill
        have hzc' : z.cells = ((tz P t).map SV.den).toArray := by apply Array.ext'; rw [hzc]
        have hmA : (gs.mapM fun f => do pure (f.offset, ← sizeOf f.type) : Sem (Array (Nat × Nat))).run P w = .ok (gs.toList.map fun f => (f.offset, tsz P f.type)).toArray w := by
          rw [Array.mapM_eq_mapM_toList]
          simp only [Sem.run_map, hm, Result.andThen_ok]
        have hden : (SV.agg l.length fun j => l.getD j default).den = .agg (l.map SV.den).toArray := by
          simp only [SV.den]
          congr 1
          apply Array.ext'
          apply List.ext_getElem?
          intro j
          simp only [List.getElem?_map]
          by_cases hj : j < l.length
          · rw [List.getElem?_range hj]; simp [List.getD, hj]
          · rw [List.getElem?_eq_none (by simp; omega), List.getElem?_eq_none (by omega)]; rfl
        rw [hden]
        have hfill' : Instr.fill (fun i => ((gs.toList.map fun f => (f.offset, tsz P f.type)).toArray)[i]?) z.cells (parts.map fun x => (x.1, a.eval x.2)).toList = some (l.map SV.den).toArray := by rw [hzc']; exact hfill
        have hzr : (zeroValue t).run P w = .ok z w := by simp [zeroValue, typeInfo, hi, hiz]
        have hb : (Instr.build t (parts.map fun x => (x.1, a.eval x.2))).run P w = .ok (.agg (l.map SV.den).toArray) w := by
          unfold Instr.build
          simp only [Sem.run_bind, hzr, run_underlying hu, Result.andThen_ok, hmA, hfill', Sem.run_pure]
        simp [execOp, ho', hb]
      · rename_i len e hfs
        have hu := tk_array hfs
        have hze : 0 < tsz P e := of_decide_eq_true hff
        have hvals : (parts.map fun x => (x.1, a.eval x.2)).toList = (parts.toList.map fun p => (p.1, ev st.env p.2)).map fun p => (p.1, (p.2.getD default).den) := by
          rw [Array.toList_map, List.map_map]
          apply List.map_congr_left
          intro p hp
          have := hsome _ (List.mem_map.2 ⟨p, hp, rfl⟩)
          obtain ⟨s, hs⟩ := Option.isSome_iff_exists.1 this
          simp only [] at hs
          simp [hs, (ev_ok he hs).1]
        have hplace : (fun i => some (i * tsz P e, tsz P e)) = placesOf P t := by
          funext i
          unfold placesOf arrOf
          rw [hfs]
        have hfill := fill_ok _ _ _ _ hl hvals
        rw [← hplace] at hfill
        have hzc' : z.cells = ((tz P t).map SV.den).toArray := by apply Array.ext'; rw [hzc]
        have hden : (SV.agg l.length fun j => l.getD j default).den = .agg (l.map SV.den).toArray := by
          simp only [SV.den]
          congr 1
          apply Array.ext'
          apply List.ext_getElem?
          intro j
          simp only [List.getElem?_map]
          by_cases hj : j < l.length
          · rw [List.getElem?_range hj]; simp [List.getD, hj]
          · rw [List.getElem?_eq_none (by simp; omega), List.getElem?_eq_none (by omega)]; rfl
        rw [hden]
        have hfill' : Instr.fill (fun i => some (i * tsz P e, tsz P e)) z.cells (parts.map fun x => (x.1, a.eval x.2)).toList = some (l.map SV.den).toArray := by rw [hzc']; exact hfill
        have hzr : (zeroValue t).run P w = .ok z w := by simp [zeroValue, typeInfo, hi, hiz]
        have h1 := run_sizeOf hze w
        have hb : (Instr.build t (parts.map fun x => (x.1, a.eval x.2))).run P w = .ok (.agg (l.map SV.den).toArray) w := by
          unfold Instr.build
          simp only [Sem.run_bind, hzr, run_underlying hu, Result.andThen_ok, h1, hfill', Sem.run_pure]
        simp [execOp, ho', hb]
      · cases hff
  · exact h.elim
end Eng
end Go.Proofs.YtpkmnggfomllhaaDoor
