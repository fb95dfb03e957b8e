/- The evaluator, part F: the state of a call: what is known of memory, and how it is kept. -/
import Derived.Test.YtpkmnggfomllhaaDoorEngE
set_option linter.unusedSimpArgs false
set_option linter.unusedVariables false
namespace Go.Proofs.YtpkmnggfomllhaaDoor
namespace Eng
structure Evo (M : Nat → Prop) (w w' : World) : Prop where
  os : w'.os = w.os
  tape : w'.tape = w.tape
  output : w'.output = w.output
  size : w.heap.size ≤ w'.heap.size
  block : ∀ b, b < w.heap.size → ¬ M b → w'.heap[b]? = w.heap[b]?
theorem Evo.refl (M : Nat → Prop) (w : World) : Evo M w w := ⟨rfl, rfl, rfl, Nat.le_refl _, fun _ _ _ => rfl⟩
theorem Evo.trans {M : Nat → Prop} {a b c : World} (h : Evo M a b) (k : Evo M b c) : Evo M a c :=
  ⟨k.os.trans h.os, k.tape.trans h.tape, k.output.trans h.output, Nat.le_trans h.size k.size, fun i hi hm => (k.block i (Nat.lt_of_lt_of_le hi h.size) hm).trans (h.block i hi hm)⟩
structure Frm where
  M : Nat → Prop
  L : Nat → Prop
  Inv : World → Prop
  sub : ∀ b, M b → L b
  lt : ∀ w b, Inv w → L b → b < w.heap.size
  stab : ∀ w w' B, Inv w → (∀ b, L b → b < B) → (∀ b, b < B → w'.heap[b]? = w.heap[b]?) → Inv w'
def Frm.nil : Frm := ⟨fun _ => False, fun _ => False, fun _ => True, fun _ h => h, fun _ _ _ h => h.elim, fun _ _ _ _ _ _ => trivial⟩
def Own.blk : Own → Option Nat
  | .box b _ _ => some b
  | .row (some a) _ _ _ _ _ => some a.block
  | .res b _ => some b
  | .mp b _ _ _ _ => some b
  | _ => none
theorem Own.ok_keep {R R' : Nat → Prop} {B : Nat} {w w' : World} {o : Own} (h : o.ok R B w) (hR : ∀ b, R b → R' b) (hR' : ∀ b, o.blk = some b → R' b → R b) (hw : ∀ b, R b → w'.heap[b]? = w.heap[b]?) (hb : ∀ b, o.blk = some b → w'.heap[b]? = w.heap[b]?) : o.ok R' B w' := by
  cases o with
  | gone => trivial
  | box blk ty cs =>
    obtain ⟨h1, h2, h3, h4⟩ := h
    exact ⟨h1, fun hr => h2 (hR' _ rfl hr), (hb blk rfl).trans h3, fun c hc => ⟨(h4 c hc).1, SV.ok_mono hR hw c (h4 c hc).2⟩⟩
  | row a e len cap sz rd =>
    obtain ⟨h1, h2, h3⟩ := h
    refine ⟨⟨h1.1, ?_⟩, ?_, fun i j hi hj => ⟨(h3 i j hi hj).1, SV.ok_mono hR hw _ (h3 i j hi hj).2⟩⟩
    · rcases h1.2 with hn | ⟨g, cap', cur, hv, hbg, hg, rest⟩
      · exact .inl hn
      · refine .inr ⟨g, cap', cur, hv, hbg, ?_, rest⟩
        simp only [Value.slice.injEq] at hv
        obtain ⟨rfl, _, _⟩ := hv
        exact (hb g rfl).trans hg
    · intro g hg hr
      subst hg
      exact h2 g rfl (hR' _ rfl hr)
  | frz a len cap sz rd => exact SV.ok_mono hR hw _ h
  | res blk p =>
    obtain ⟨h1, h2, h3, h4⟩ := h
    have hbl := hb blk rfl
    refine ⟨h1, fun hr => h2 (hR' _ rfl hr), ?_, fun w'' hw'' => h4 w'' fun b hbb => ?_⟩
    · have : w.heap[blk]? = some w.heap[blk] := Array.getElem?_eq_getElem h3
      rw [← hbl] at this
      exact (Array.getElem?_eq_some_iff.1 this).1
    · rcases hbb with hbb | rfl
      · exact (hw'' b (.inl (hR b hbb))).trans (hw b hbb)
      · exact (hw'' b (.inr rfl)).trans hbl
  | mp blk sc ks vk f =>
    obtain ⟨h1, h2, es, clock, h3, h4⟩ := h
    exact ⟨h1, fun hr => h2 (hR' _ rfl hr), es, clock, (hb blk rfl).trans h3, h4⟩
theorem Own.blk_lt {R : Nat → Prop} {B : Nat} {w : World} {o : Own} (h : o.ok R B w) {b : Nat} (hb : o.blk = some b) : B ≤ b ∧ b < w.heap.size ∧ ¬ R b := by
  cases o with
  | gone => cases hb
  | box blk ty cs =>
    obtain ⟨h1, h2, h3, h4⟩ := h
    simp only [Own.blk, Option.some.injEq] at hb
    subst hb
    exact ⟨h1, (Array.getElem?_eq_some_iff.1 h3).1, h2⟩
  | row a e len cap sz rd =>
    cases a with
    | none => cases hb
    | some g =>
      simp only [Own.blk, Option.some.injEq] at hb
      subst hb
      have := h.1.lt g.block rfl
      exact ⟨this.1, this.2, h.2.1 g rfl⟩
  | frz a len cap sz rd => cases hb
  | res blk p =>
    simp only [Own.blk, Option.some.injEq] at hb
    subst hb
    exact ⟨h.1, h.2.2.1, h.2.1⟩
  | mp blk sc ks vk f =>
    simp only [Own.blk, Option.some.injEq] at hb
    subst hb
    obtain ⟨h1, h2, es, clock, h3, _⟩ := h
    exact ⟨h1, (Array.getElem?_eq_some_iff.1 h3).1, h2⟩
structure Org where
  w : World
  G : Nat → Prop
structure RelR (F : Frm) (R0 : Nat → Prop) (w0 : Org) (ob : Nat) (R : Nat → Prop) (st : St) (a : Act) (w : World) : Prop where
  defers : a.defers = []
  env : EnvOk R st.env a w
  size : st.n ≤ a.tmps.size
  own : OwnsOk R ob st.own w
  dist : ∀ (i j : Nat) (o o' : Own), i ≠ j → st.own[i]? = some o → st.own[j]? = some o' → ∀ b, o.blk = some b → o'.blk ≠ some b
  evo : Evo (fun b => F.M b ∨ w0.G b) w0.w w
  inv : F.Inv w
  obM : ∀ b, F.L b → b < ob
  gb : ∀ (i : Nat) (o : Own), st.own[i]? = some o → ∀ b, o.blk = some b → w0.w.heap.size ≤ b ∨ w0.G b
  obw : ob ≤ w.heap.size
  rr : ∀ b, R b → b < w.heap.size ∧ ¬ F.M b ∧ (R0 b ∨ w0.w.heap.size ≤ b ∨ w0.G b)
  r0 : ∀ b, R0 b → R b
section
variable {F : Frm} {R0 R : Nat → Prop} {w0 : Org} {w : World} {ob : Nat} {st : St} {a : Act}
theorem RelR.ltM (h : RelR F R0 w0 ob R st a w) {b : Nat} (hb : F.M b) : b < ob := h.obM b (F.sub b hb)
theorem EnvOk.put {env : List (Nat × SV)} (h : EnvOk R env a w) {d : Nat} (hd : d < a.tmps.size) {s : SV} (hs : s.ok R w) : EnvOk R ((d, s) :: env) (a.put (some d) s.den) w := by
  intro t s' ht
  simp only [look] at ht
  by_cases e : d = t
  · rw [if_pos e, Option.some.injEq] at ht
    subst ht; subst e
    exact ⟨by simp [Act.put, hd], hs⟩
  · rw [if_neg e] at ht
    obtain ⟨h1, h2⟩ := h t s' ht
    exact ⟨by simp only [Act.put]; rw [Array.getElem?_setIfInBounds_ne e]; exact h1, h2⟩
theorem put_size (a : Act) (d : Option Tmp) (v : Value) : (a.put d v).tmps.size = a.tmps.size := by cases d <;> simp [Act.put]
theorem put_defers (a : Act) (d : Option Tmp) (v : Value) : (a.put d v).defers = a.defers := by cases d <;> rfl
theorem RelR.put (h : RelR F R0 w0 ob R st a w) {d : Option Tmp} (hd : ∀ t, d = some t → t < st.n) {s : SV} (hs : s.ok R w) : RelR F R0 w0 ob R (st.put d s) (a.put d s.den) w := by
  cases d with
  | none => exact h
  | some d =>
    have hd' : d < a.tmps.size := Nat.lt_of_lt_of_le (hd d rfl) h.size
    exact ⟨h.defers, h.env.put hd' hs, by rw [put_size]; exact h.size, h.own, h.dist, h.evo, h.inv, h.obM, h.gb, h.obw, h.rr, h.r0⟩
theorem RelR.turn (h : RelR F R0 w0 ob R st a w) {w' : World} {own' : List Own} {R' : Nat → Prop} (C : Nat → Prop) (h1 : w'.os = w.os) (h2 : w'.tape = w.tape) (h3 : w'.output = w.output) (h4 : w.heap.size ≤ w'.heap.size)
    (hC : ∀ b, C b → ob ≤ b ∧ ¬ R b ∧ (w0.w.heap.size ≤ b ∨ w0.G b)) (hb : ∀ b, b < w.heap.size → ¬ C b → w'.heap[b]? = w.heap[b]?)
    (hR : ∀ b, R b → R' b) (hR' : ∀ b, R' b → R b ∨ (ob ≤ b ∧ b < w'.heap.size ∧ (w0.w.heap.size ≤ b ∨ w0.G b)))
    (ho : OwnsOk R' ob own' w') (hd : ∀ (i j : Nat) (o o' : Own), i ≠ j → own'[i]? = some o → own'[j]? = some o' → ∀ b, o.blk = some b → o'.blk ≠ some b)
    (hg : ∀ (i : Nat) (o : Own), own'[i]? = some o → ∀ b, o.blk = some b → w0.w.heap.size ≤ b ∨ w0.G b) :
    RelR F R0 w0 ob R' { st with own := own' } a w' := by
  have hRb : ∀ b, R b → w'.heap[b]? = w.heap[b]? := fun b hr => hb b (h.rr b hr).1 (fun hc => (hC b hc).2.1 hr)
  have hM : ∀ b, F.L b → b < ob := h.obM
  refine ⟨h.defers, fun t s ht => ⟨(h.env t s ht).1, SV.ok_mono hR hRb s (h.env t s ht).2⟩, h.size, ho, hd, ?_, ?_, h.obM, hg, Nat.le_trans h.obw h4, ?_, fun b hb => hR b (h.r0 b hb)⟩
  · exact ⟨h1.trans h.evo.os, h2.trans h.evo.tape, h3.trans h.evo.output, Nat.le_trans h.evo.size h4, fun b hlt hm => (hb b (Nat.lt_of_lt_of_le hlt h.evo.size) (fun hc => by
      rcases (hC b hc).2.2 with h9 | h9
      · omega
      · exact hm (.inr h9))).trans (h.evo.block b hlt hm)⟩
  · exact F.stab w w' ob h.inv hM (fun b hlt => hb b (Nat.lt_of_lt_of_le hlt h.obw) (fun hc => by have := (hC b hc).1; omega))
  · intro b hr
    rcases hR' b hr with hr | ⟨hr1, hr2, hr3⟩
    · obtain ⟨g1, g2, g3⟩ := h.rr b hr
      exact ⟨Nat.lt_of_lt_of_le g1 h4, g2, g3⟩
    · exact ⟨hr2, fun hm => by have := h.ltM hm; omega, .inr hr3⟩
theorem gb_append {own : List Own} {w0 : Org} {m : Nat} (hm : w0.w.heap.size ≤ m) (h : ∀ (i : Nat) (o : Own), own[i]? = some o → ∀ b, o.blk = some b → w0.w.heap.size ≤ b ∨ w0.G b) {o : Own} (ho : ∀ b, o.blk = some b → b = m) :
    ∀ (i : Nat) (x : Own), (own ++ [o])[i]? = some x → ∀ b, x.blk = some b → w0.w.heap.size ≤ b ∨ w0.G b := by
  intro i x hx b hb
  rw [List.getElem?_append] at hx
  split at hx
  · exact h i x hx b hb
  · by_cases e : i - own.length = 0
    · rw [e] at hx; simp at hx; subst hx; have := ho b hb; omega
    · rw [List.getElem?_eq_none (by simp; omega)] at hx; cases hx
theorem gb_set {own : List Own} {w0 : Org} {id m : Nat} (hm : w0.w.heap.size ≤ m) (h : ∀ (i : Nat) (o : Own), own[i]? = some o → ∀ b, o.blk = some b → w0.w.heap.size ≤ b ∨ w0.G b) {o o' : Own} (hid : own[id]? = some o) (ho : ∀ b, o'.blk = some b → o.blk = some b ∨ b = m) :
    ∀ (i : Nat) (x : Own), (own.set id o')[i]? = some x → ∀ b, x.blk = some b → w0.w.heap.size ≤ b ∨ w0.G b := by
  intro i x hx b hb
  rw [List.getElem?_set] at hx
  split at hx
  · split at hx
    · simp only [Option.some.injEq] at hx
      subst hx
      rcases ho b hb with h9 | h9
      · exact h id o hid b h9
      · omega
    · cases hx
  · exact h i x hx b hb
theorem get_append_one {own : List Own} {o : Own} {i : Nat} {x : Own} (h : (own ++ [o])[i]? = some x) : own[i]? = some x ∨ (i = own.length ∧ x = o) := by
  rw [List.getElem?_append] at h
  split at h
  · exact .inl h
  · rename_i hge
    by_cases e : i - own.length = 0
    · rw [e] at h; simp at h; exact .inr ⟨by omega, h.symm⟩
    · rw [List.getElem?_eq_none (by simp; omega)] at h; cases h
theorem RelR.fresh (h : RelR F R0 w0 ob R st a w) {o : Own} {cells : Array Value} {e : TypeId} (hblk : ∀ b, o.blk = some b → b = w.heap.size) (ho : o.ok R ob (w.alloc (.cells cells e))) :
    RelR F R0 w0 ob R { st with own := st.own ++ [o] } a (w.alloc (.cells cells e)) := by
  have hold : ∀ b, b < w.heap.size → (w.alloc (.cells cells e)).heap[b]? = w.heap[b]? := fun b hb => heap_alloc_old w _ hb
  refine h.turn (fun _ => False) rfl rfl rfl (by simp) (fun _ h => h.elim) (fun b hb _ => hold b hb) (fun _ h => h) (fun _ h => .inl h) ?_ ?_ (gb_append h.evo.size h.gb hblk)
  · intro i x hx
    rcases get_append_one hx with hx | ⟨_, rfl⟩
    · exact Own.ok_keep (h.own i x hx) (fun _ h => h) (fun _ _ h => h) (fun b hr => hold b (h.rr b hr).1) (fun b hb => hold b (Own.blk_lt (h.own i x hx) hb).2.1)
    · exact ho
  · intro i j o1 o2 hij h1 h2 b hb1 hb2
    rcases get_append_one h1 with g1 | ⟨hi, rfl⟩ <;> rcases get_append_one h2 with g2 | ⟨hj, rfl⟩
    · exact h.dist i j o1 o2 hij g1 g2 b hb1 hb2
    · have := (Own.blk_lt (h.own i o1 g1) hb1).2.1
      have := hblk b hb2
      omega
    · have := (Own.blk_lt (h.own j o2 g2) hb2).2.1
      have := hblk b hb1
      omega
    · omega
theorem RelR.setOwn (h : RelR F R0 w0 ob R st a w) {id g : Nat} {o o' : Own} (hid : st.own[id]? = some o) (hg : o.blk = some g) (hg' : ∀ b, o'.blk = some b → b = g) {w' : World}
    (h1 : w'.os = w.os) (h2 : w'.tape = w.tape) (h3 : w'.output = w.output) (h4 : w.heap.size ≤ w'.heap.size) (hb : ∀ b, b < w.heap.size → b ≠ g → w'.heap[b]? = w.heap[b]?)
    (ho : o'.ok R ob w') : RelR F R0 w0 ob R { st with own := st.own.set id o' } a w' := by
  have hgl := Own.blk_lt (h.own id o hid) hg
  have hidl : id < st.own.length := (List.getElem?_eq_some_iff.1 hid).1
  refine h.turn (fun b => b = g) h1 h2 h3 h4 (fun b e => by subst e; exact ⟨hgl.1, hgl.2.2, h.gb id o hid _ hg⟩) (fun b hlt hne => hb b hlt hne) (fun _ h => h) (fun _ h => .inl h) ?_ ?_ (gb_set h.evo.size h.gb hid fun b hb => .inl (by rw [hg' b hb]; exact hg))
  · intro i x hx
    rw [List.getElem?_set] at hx
    split at hx
    · rename_i e
      subst e
      simp only [hidl, if_true, Option.some.injEq] at hx
      subst hx
      exact ho
    · rename_i hne
      refine Own.ok_keep (h.own i x hx) (fun _ h => h) (fun _ _ h => h) (fun b hr => hb b (h.rr b hr).1 (fun e => by subst e; exact hgl.2.2 hr)) (fun b hbx => hb b (Own.blk_lt (h.own i x hx) hbx).2.1 (fun e => ?_))
      subst e
      exact h.dist id i o x hne hid hx b hg hbx
  · intro i j o1 o2 hij h1 h2 b hb1 hb2
    rw [List.getElem?_set] at h1 h2
    split at h1 <;> split at h2
    · omega
    · rename_i e hne
      subst e
      simp only [hidl, if_true, Option.some.injEq] at h1
      subst h1
      have := hg' b hb1
      subst this
      exact h.dist id j o o2 hij hid h2 b hg hb2
    · rename_i hne e
      subst e
      simp only [hidl, if_true, Option.some.injEq] at h2
      subst h2
      have := hg' b hb2
      subst this
      exact h.dist i id o1 o hij h1 hid b hb1 hg
    · exact h.dist i j o1 o2 hij h1 h2 b hb1 hb2
end
end Eng
end Go.Proofs.YtpkmnggfomllhaaDoor
