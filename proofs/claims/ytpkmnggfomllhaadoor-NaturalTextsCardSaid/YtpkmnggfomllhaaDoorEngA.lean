/- A symbolic evaluator of Go code over slots that are known: values, states, and what a state says of memory. Part A: values and operations that only yield a value. -/
import Derived.WalkKit
import Derived.Carry
import Derived.Deep.Draws
import Derived.Deep.Quiet
import Derived.Laws.AppendOwn
import Derived.KernelRfl
import Derived.DeepKeys
import Derived.Laws.StructEq
set_option linter.unusedSimpArgs false
set_option linter.unusedVariables false
namespace Go.Proofs.YtpkmnggfomllhaaDoor
namespace Eng
inductive SV where
  | v (x : Value)
  | i (k : IntKind) (n : Int)
  | b (x : Bool)
  | tt
  | ff
  | sl (a : Option Addr) (len cap sz : Nat) (rd : Nat → Nat → SV)
  | el (a : Addr) (n : Nat) (rd : Nat → SV)
  | os (id : Nat) (a : Option Addr) (len cap : Nat)
  | oe (id : Nat) (blk off : Nat) (ix j : Nat)
  | op (id : Nat) (blk off : Nat)
  | agg (n : Nat) (rd : Nat → SV)
  | tup (n : Nat) (rd : Nat → SV)
  | ow (id : Nat) (a : Option Addr) (sz off len cap : Nat)
  | fn (f : FuncId) (n : Nat) (rd : Nat → SV)
  | mp (id : Nat) (blk : Nat)
instance : Inhabited SV := ⟨.v undef⟩
def SV.den : SV → Value
  | .v x => x
  | .i k n => .int k n
  | .b x => .bool x
  | .tt => .bool true
  | .ff => .bool false
  | .sl a len cap _ _ => .slice a len cap
  | .el a _ _ => .pointer (some a)
  | .os _ a len cap => .slice a len cap
  | .oe _ blk off _ _ => .pointer (some ⟨blk, off, none⟩)
  | .op _ blk off => .pointer (some ⟨blk, off, none⟩)
  | .agg n rd => .agg ((List.range n).map fun j => (rd j).den).toArray
  | .tup n rd => .tuple ((List.range n).map fun j => (rd j).den).toArray
  | .ow _ a sz off len cap => .slice (if cap = 0 then a else a.map (·.add (off * sz))) len cap
  | .fn f n rd => .func (.func f) #[] ((List.range n).map fun j => (rd j).den).toArray
  | .mp _ blk => .map (some blk)
def SV.ok (R : Nat → Prop) (w : World) : SV → Prop
  | .sl a len cap sz rd => len ≤ cap ∧ cap ≤ maxLen ∧ (len = 0 ∨ ∃ blk off, a = some ⟨blk, off, none⟩ ∧ R blk ∧ ∀ i j, i < len → j < sz → w.cell? ⟨blk, off + i * sz + j, none⟩ = some (rd i j).den ∧ (rd i j).den.oneCell' = true ∧ (rd i j).ok R w)
  | .el a n rd => ∃ blk off, a = ⟨blk, off, none⟩ ∧ R blk ∧ ∀ j, j < n → w.cell? ⟨blk, off + j, none⟩ = some (rd j).den ∧ (rd j).den.oneCell' = true ∧ (rd j).ok R w
  | .agg n rd => ∀ j, j < n → (rd j).ok R w
  | .tup n rd => ∀ j, j < n → (rd j).ok R w
  | .fn _ n rd => ∀ j, j < n → (rd j).ok R w
  | _ => True
theorem SV.ok_mono {R R' : Nat → Prop} {w w' : World} (hR : ∀ b, R b → R' b) (hw : ∀ b, R b → w'.heap[b]? = w.heap[b]?) : ∀ s : SV, s.ok R w → s.ok R' w' := by
  intro s
  induction s with
  | sl a len cap sz rd ih =>
    rintro ⟨h1, h2, h3⟩
    refine ⟨h1, h2, ?_⟩
    rcases h3 with h3 | ⟨blk, off, ha, hr, hc⟩
    · exact .inl h3
    · exact .inr ⟨blk, off, ha, hR _ hr, fun i j hi hj => ⟨(World.cell?_of_block (w := w) (a := ⟨blk, off + i * sz + j, none⟩) (hw blk hr)).trans (hc i j hi hj).1, (hc i j hi hj).2.1, ih i j (hc i j hi hj).2.2⟩⟩
  | el a n rd ih =>
    rintro ⟨blk, off, ha, hr, hc⟩
    exact ⟨blk, off, ha, hR _ hr, fun j hj => ⟨(World.cell?_of_block (w := w) (a := ⟨blk, off + j, none⟩) (hw blk hr)).trans (hc j hj).1, (hc j hj).2.1, ih j (hc j hj).2.2⟩⟩
  | agg n rd ih => exact fun h j hj => ih j (h j hj)
  | tup n rd ih => exact fun h j hj => ih j (h j hj)
  | fn f n rd ih => exact fun h j hj => ih j (h j hj)
  | _ => exact fun _ => trivial
inductive Own where
  | gone
  | box (blk : Nat) (ty : TypeId) (cs : List SV)
  | row (a : Option Addr) (e : TypeId) (len cap sz : Nat) (rd : Nat → Nat → SV)
  | frz (a : Option Addr) (len cap sz : Nat) (rd : Nat → Nat → SV)
  | res (blk : Nat) (p : World → Prop)
  | mp (blk : Nat) (sc : Bool) (ks : List IntKind) (vk : IntKind) (f : List Int → Option Int)
structure St where
  n : Nat
  env : List (Nat × SV)
  own : List Own
def look : List (Nat × SV) → Nat → Option SV
  | [], _ => none
  | (t, s) :: l, u => if t = u then some s else look l u
def St.put (st : St) (dst : Option Tmp) (s : SV) : St :=
  match dst with
  | some d => { st with env := (d, s) :: st.env }
  | none => st
def svc : Value → SV
  | .int k n => .i k n
  | .bool true => .tt
  | .bool false => .ff
  | .slice none 0 0 => .sl none 0 0 0 (fun _ _ => .v undef)
  | x => .v x
theorem den_svc (x : Value) : (svc x).den = x := by unfold svc; split <;> rfl
theorem ok_svc (R : Nat → Prop) (w : World) (x : Value) : (svc x).ok R w := by
  unfold svc
  split
  · trivial
  · trivial
  · trivial
  · exact ⟨Nat.le_refl _, Nat.zero_le _, .inl rfl⟩
  · trivial
def svz : Value → SV
  | .bool x => .b x
  | x => svc x
theorem den_svz (x : Value) : (svz x).den = x := by
  unfold svz
  split
  · rfl
  · exact den_svc x
theorem ok_svz (R : Nat → Prop) (w : World) (x : Value) : (svz x).ok R w := by
  unfold svz
  split
  · trivial
  · exact ok_svc R w x
def ev (env : List (Nat × SV)) : Operand → Option SV
  | .tmp t => look env t
  | .const x => some (svc x)
  | .global g => some (.v (.pointer (some ⟨g, 0, none⟩)))
  | .func f => some (.fn f 0 fun _ => default)
def EnvOk (R : Nat → Prop) (env : List (Nat × SV)) (a : Act) (w : World) : Prop :=
  ∀ t s, look env t = some s → a.tmps[t]? = some s.den ∧ s.ok R w
theorem ev_ok {R : Nat → Prop} {env : List (Nat × SV)} {a : Act} {w : World} (h : EnvOk R env a w) {x : Operand} {s : SV} (hx : ev env x = some s) : a.eval x = s.den ∧ s.ok R w := by
  cases x with
  | tmp t => have := h t s hx; exact ⟨by simp [Act.eval, this.1], this.2⟩
  | const c => simp only [ev, Option.some.injEq] at hx; subst hx; exact ⟨(den_svc c).symm, ok_svc _ _ _⟩
  | global g => simp only [ev, Option.some.injEq] at hx; subst hx; exact ⟨rfl, trivial⟩
  | func f => simp only [ev, Option.some.injEq] at hx; subst hx; exact ⟨rfl, fun j hj => absurd hj (Nat.not_lt_zero _)⟩
/-! ### Types -/
inductive TK where
  | int (k : IntKind) | bool | str | slice (e : TypeId) | struct (fs : List (Nat × TypeId)) | array (n : Nat) (e : TypeId) | other
def tk (P : Program) (t : TypeId) : TK :=
  match P.underlying t with
  | some (.int k) => .int k
  | some .bool => .bool
  | some .string => .str
  | some (.slice e) => .slice e
  | some (.struct fs) => .struct (fs.toList.map fun f => (f.offset, f.type))
  | some (.array n e) => .array n e
  | _ => .other
def tsz (P : Program) (t : TypeId) : Nat := ((P.info? t).map (·.size)).getD 0
theorem tk_int {P : Program} {t : TypeId} {k : IntKind} (h : tk P t = .int k) : P.underlying t = some (.int k) := by
  unfold tk at h; split at h <;> simp_all
theorem tk_str {P : Program} {t : TypeId} (h : tk P t = .str) : P.underlying t = some .string := by
  unfold tk at h; split at h <;> simp_all
theorem tk_slice {P : Program} {t e : TypeId} (h : tk P t = .slice e) : P.underlying t = some (.slice e) := by
  unfold tk at h; split at h <;> simp_all
theorem tk_array {P : Program} {t e : TypeId} {n : Nat} (h : tk P t = .array n e) : P.underlying t = some (.array n e) := by
  unfold tk at h; split at h <;> simp_all
theorem tk_struct {P : Program} {t : TypeId} {l : List (Nat × TypeId)} (h : tk P t = .struct l) : ∃ fs, P.underlying t = some (.struct fs) ∧ l = fs.toList.map fun f => (f.offset, f.type) := by
  unfold tk at h; split at h <;> simp_all
def tplain (P : Program) (t : TypeId) : Bool := match tk P t with | .struct _ => false | .array _ _ => false | .other => false | _ => true
theorem tsz_info {P : Program} {t : TypeId} (h : 0 < tsz P t) : ∃ i, P.info? t = some i ∧ i.size = tsz P t := by
  unfold tsz at *
  cases hi : P.info? t with
  | none => simp [hi] at h
  | some i => exact ⟨i, rfl, by simp⟩
theorem run_sizeOf {P : Program} {t : TypeId} (h : 0 < tsz P t) (w : World) : (sizeOf t).run P w = .ok (tsz P t) w := by
  obtain ⟨i, hi, hs⟩ := tsz_info h
  simp [sizeOf, typeInfo, hi, hs]
theorem run_isAgg_plain {P : Program} {t : TypeId} (h : tplain P t = true) (w : World) : (isAgg t).run P w = .ok false w := by
  unfold tplain tk at h
  split at h
  · simp at h
  · simp at h
  · simp at h
  · rename_i x h1 h2 h3
    cases hu : P.underlying t with
    | none => rw [hu] at h1 h2 h3; simp at h3
    | some d => cases d <;> simp_all [isAgg, run_underlying hu]
theorem run_isAgg_agg {P : Program} {t : TypeId} (h : (∃ l, tk P t = .struct l) ∨ ∃ n e, tk P t = .array n e) (w : World) : (isAgg t).run P w = .ok true w := by
  rcases h with ⟨l, h⟩ | ⟨n, e, h⟩
  · obtain ⟨fs, hu, _⟩ := tk_struct h; simp [isAgg, run_underlying hu]
  · simp [isAgg, run_underlying (tk_array h)]
end Eng
end Go.Proofs.YtpkmnggfomllhaaDoor
