/- The evaluator, part C: the other operations that only yield a value. -/
import Derived.Test.YtpkmnggfomllhaaDoorEngB
set_option linter.unusedSimpArgs false
set_option linter.unusedVariables false
namespace Go.Proofs.YtpkmnggfomllhaaDoor
namespace Eng
variable {P : Program} {st : St} {K : SV → Prop}
def vPick (st : St) (c x y : Operand) (K : SV → Prop) : Prop :=
  match ev st.env c with
  | some .tt => (match ev st.env x with | some s => K s | none => False)
  | some .ff => (match ev st.env y with | some s => K s | none => False)
  | some (.b q) => (match ev st.env x, ev st.env y with
    | some s, some t => (match toB s, toB t with | some p, some r => K (.b (bif q then p else r)) | _, _ => False)
    | _, _ => False)
  | _ => False
theorem vMove_ok {x : Operand} (h : match ev st.env x with | some s => K s | none => False) : Vok P st (.move x) K := by
  split at h
  · rename_i s hx
    exact ⟨s, h, fun R B a w he _ => ⟨(ev_ok he hx).2, yall fun w o ho => by simp [execOp, ho, (ev_ok he hx).1]⟩⟩
  · exact h.elim
theorem vAssign_ok {x : Operand} (h : match ev st.env x with | some s => K s | none => False) : Vok P st (.assign x) K := by
  split at h
  · rename_i s hx
    exact ⟨s, h, fun R B a w he _ => ⟨(ev_ok he hx).2, yall fun w o ho => by simp [execOp, ho, (ev_ok he hx).1]⟩⟩
  · exact h.elim
theorem vPick_ok {c x y : Operand} (h : vPick st c x y K) : Vok P st (.pick c x y) K := by
  unfold vPick at h
  split at h
  · rename_i hc
    split at h
    · rename_i s hx
      exact ⟨s, h, fun R B a w he _ => ⟨(ev_ok he hx).2, yall fun w o ho => by simp [execOp, ho, (ev_ok he hx).1, (ev_ok he hc).1, SV.den, asBool]⟩⟩
    · exact h.elim
  · rename_i hc
    split at h
    · rename_i s hx
      exact ⟨s, h, fun R B a w he _ => ⟨(ev_ok he hx).2, yall fun w o ho => by simp [execOp, ho, (ev_ok he hx).1, (ev_ok he hc).1, SV.den, asBool]⟩⟩
    · exact h.elim
  · rename_i q hc
    split at h
    · rename_i s t hx hy
      split at h
      · rename_i p r hp hr
        refine ⟨_, h, fun R B a w he _ => ⟨trivial, yall fun w o ho => ?_⟩⟩
        simp only [execOp, ho, (ev_ok he hx).1, (ev_ok he hc).1, (ev_ok he hy).1, SV.den, toB_den hp, toB_den hr, asBool]
        cases q <;> rfl
      · exact h.elim
    · exact h.elim
  · exact h.elim
def vNilCheck (st : St) (x : Operand) (K : SV → Prop) : Prop :=
  match ev st.env x with
  | some (.op id blk o) => K (.op id blk o)
  | some (.oe id blk o i j) => K (.oe id blk o i j)
  | some (.el a n rd) => K (.el a n rd)
  | some (.v (.pointer (some a))) => K (.v (.pointer (some a)))
  | some (.fn f n rd) => K (.fn f n rd)
  | _ => False
theorem vNilCheck_ok {x : Operand} (h : vNilCheck st x K) : Vok P st (.nilCheck x) K := by
  unfold vNilCheck at h
  split at h
  · rename_i hx; exact ⟨_, h, fun R B a w he _ => ⟨(ev_ok he hx).2, yall fun w o ho => by simp [execOp, ho, (ev_ok he hx).1, SV.den]⟩⟩
  · rename_i hx; exact ⟨_, h, fun R B a w he _ => ⟨(ev_ok he hx).2, yall fun w o ho => by simp [execOp, ho, (ev_ok he hx).1, SV.den]⟩⟩
  · rename_i hx; exact ⟨_, h, fun R B a w he _ => ⟨(ev_ok he hx).2, yall fun w o ho => by simp [execOp, ho, (ev_ok he hx).1, SV.den]⟩⟩
  · rename_i hx; exact ⟨_, h, fun R B a w he _ => ⟨(ev_ok he hx).2, yall fun w o ho => by simp [execOp, ho, (ev_ok he hx).1, SV.den]⟩⟩
  · rename_i hx; exact ⟨_, h, fun R B a w he _ => ⟨(ev_ok he hx).2, yall fun w o ho => by simp [execOp, ho, (ev_ok he hx).1, SV.den]⟩⟩
  · exact h.elim
def flipB (k : IntKind) (n : Int) : Int := bits .xor k (if k.signed then -1 else k.max) n
def vUn (st : St) (op : UnOp) (x : Operand) (K : SV → Prop) : Prop :=
  match op, ev st.env x with
  | .not, some .tt => K .ff
  | .not, some .ff => K .tt
  | .not, some (.b q) => K (.b (!q))
  | .neg, some (.i k n) => K (.i k (k.wrap (0 - n)))
  | .xor, some (.i k n) => K (.i k (flipB k n))
  | _, _ => False
theorem vUn_ok {op : UnOp} {xt : TypeId} {x : Operand} (h : vUn st op x K) : Vok P st (.unOp op xt x) K := by
  unfold vUn at h
  split at h
  · rename_i hx
    exact ⟨_, h, fun R B a w he _ => ⟨trivial, yall fun w o ho => by simp [execOp, ho, (ev_ok he hx).1, SV.den, Op.unary]⟩⟩
  · rename_i hx
    exact ⟨_, h, fun R B a w he _ => ⟨trivial, yall fun w o ho => by simp [execOp, ho, (ev_ok he hx).1, SV.den, Op.unary]⟩⟩
  · rename_i q hx
    exact ⟨_, h, fun R B a w he _ => ⟨trivial, yall fun w o ho => by simp [execOp, ho, (ev_ok he hx).1, SV.den, Op.unary]⟩⟩
  · rename_i k n hx
    exact ⟨_, h, fun R B a w he _ => ⟨trivial, yall fun w o ho => by simp [execOp, ho, (ev_ok he hx).1, SV.den, Op.unary, Op.intArith]⟩⟩
  · rename_i k n hx
    exact ⟨_, h, fun R B a w he _ => ⟨trivial, yall fun w o ho => by simp [execOp, ho, (ev_ok he hx).1, SV.den, Op.unary, Op.intBits, bits, flipB]⟩⟩
  · exact h.elim
def vConv (P : Program) (st : St) (src dst : TypeId) (x : Operand) (K : SV → Prop) : Prop :=
  match tk P src, tk P dst, ev st.env x with
  | .int _, .int k, some (.i _ n) => K (.i k (k.wrap n))
  | .str, .str, some (.v (.string s)) => K (.v (.string s))
  | _, _, _ => False
theorem vConv_ok {src dst : TypeId} {x : Operand} (h : vConv P st src dst x K) : Vok P st (.convert src dst x) K := by
  unfold vConv at h
  split at h
  · rename_i k0 k k1 n hs hd hx
    exact ⟨_, h, fun R B a w he _ => ⟨trivial, yall fun w o ho => by simp [execOp, ho, (ev_ok he hx).1, SV.den, convert, run_underlying (tk_int hs), run_underlying (tk_int hd), Conv.intToInt]⟩⟩
  · rename_i s hs hd hx
    exact ⟨_, h, fun R B a w he _ => ⟨trivial, yall fun w o ho => by simp [execOp, ho, (ev_ok he hx).1, SV.den, convert, run_underlying (tk_str hs), run_underlying (tk_str hd)]⟩⟩
  · exact h.elim
def vExtract (st : St) (x : Operand) (ix : Nat) (K : SV → Prop) : Prop :=
  match ev st.env x with
  | some (.tup n rd) => ix < n ∧ K (rd ix)
  | _ => False
theorem vExtract_ok {x : Operand} {ix : Nat} (h : vExtract st x ix K) : Vok P st (.extract x ix) K := by
  unfold vExtract at h
  split at h
  · rename_i n rd hx
    obtain ⟨hi, h⟩ := h
    refine ⟨_, h, fun R B a w he _ => ⟨(ev_ok he hx).2 ix hi, yall fun w o ho => ?_⟩⟩
    simp [execOp, ho, (ev_ok he hx).1, SV.den, Instr.extract, hi]
  · exact h.elim
/-! ### Fields -/
def fieldOf (P : Program) (t : TypeId) (f : Nat) : Option (Nat × TypeId) :=
  match tk P t with
  | .struct fs => fs[f]?
  | _ => none
theorem fieldOf_ok {t : TypeId} {f off : Nat} {ft : TypeId} (h : fieldOf P t f = some (off, ft)) : ∃ fs g, P.underlying t = some (.struct fs) ∧ fs[f]? = some g ∧ g.offset = off ∧ g.type = ft := by
  unfold fieldOf at h
  split at h
  · rename_i l hl
    obtain ⟨fs, hu, rfl⟩ := tk_struct hl
    simp only [List.getElem?_map, Option.map_eq_some_iff, Prod.mk.injEq] at h
    obtain ⟨g, hg, h1, h2⟩ := h
    exact ⟨fs, g, hu, by simpa using hg, h1, h2⟩
  · cases h
def vFieldAddr (P : Program) (st : St) (t : TypeId) (x : Operand) (f : Nat) (K : SV → Prop) : Prop :=
  match fieldOf P t f with
  | some (off, ft) => 0 < tsz P ft ∧ (match ev st.env x with
    | some (.el a n rd) => off + tsz P ft ≤ n ∧ K (.el (a.add off) (tsz P ft) (fun j => rd (off + j)))
    | some (.op id blk o) => K (.op id blk (o + off))
    | some (.oe id blk o ix j) => K (.oe id blk (o + off) ix (j + off))
    | _ => False)
  | none => False
theorem el_ok {R : Nat → Prop} {w : World} {a : Addr} {n off m : Nat} {rd : Nat → SV} (h : (SV.el a n rd).ok R w) (hm : off + m ≤ n) : (SV.el (a.add off) m (fun j => rd (off + j))).ok R w := by
  obtain ⟨blk, o, rfl, hr, hc⟩ := h
  refine ⟨blk, o + off, Addr.add_lit _ _ _, hr, fun j hj => ?_⟩
  have := hc (off + j) (by omega)
  rwa [show o + (off + j) = o + off + j by omega] at this
theorem run_fieldAt {t : TypeId} {f off : Nat} {ft : TypeId} (h : fieldOf P t f = some (off, ft)) (hz : 0 < tsz P ft) (ad : Addr) (w : World) :
    (Instr.fieldAt t (.pointer (some ad)) f).run P w = .ok (.pointer (some (ad.add off))) w := by
  obtain ⟨fs, g, hu, hg, rfl, rfl⟩ := fieldOf_ok h
  have h1 := run_sizeOf hz w
  simp [Instr.fieldAt, run_underlying hu, hg, Instr.sureAddr, fieldPlace, h1, Nat.ne_of_gt hz]
theorem vFieldAddr_ok {t : TypeId} {x : Operand} {f : Nat} (h : vFieldAddr P st t x f K) : Vok P st (.fieldAddr t x f) K := by
  unfold vFieldAddr at h
  split at h
  · rename_i off ft hf
    obtain ⟨hz, h⟩ := h
    split at h
    · rename_i ad n rd hx
      obtain ⟨hn, h⟩ := h
      refine ⟨_, h, fun R B a w he _ => ⟨el_ok (ev_ok he hx).2 hn, yall fun w o ho => ?_⟩⟩
      simp [execOp, ho, (ev_ok he hx).1, SV.den, run_fieldAt hf hz]
    · rename_i id blk o1 hx
      refine ⟨_, h, fun R B a w he _ => ⟨trivial, yall fun w o ho => ?_⟩⟩
      simp [execOp, ho, (ev_ok he hx).1, SV.den, run_fieldAt hf hz, Addr.add_lit]
    · rename_i id blk o1 ix j hx
      refine ⟨_, h, fun R B a w he _ => ⟨trivial, yall fun w o ho => ?_⟩⟩
      simp [execOp, ho, (ev_ok he hx).1, SV.den, run_fieldAt hf hz, Addr.add_lit]
    · exact h.elim
  · exact h.elim
/-! ### Indexes -/
theorem asRead_ok {R : Nat → Prop} {B : Nat} {w : World} {s : SV} {a : Option Addr} {len cap sz : Nat} {rd : Nat → Nat → SV} (h : asRead st.own s = some (a, len, cap, sz, rd)) (ho : OwnsOk R B st.own w) (hs : s.ok R w) :
    s.den = .slice a len cap ∧ (SV.sl a len cap sz rd).ok R w := by
  unfold asRead at h
  split at h
  · simp only [Option.some.injEq, Prod.mk.injEq] at h
    obtain ⟨rfl, rfl, rfl, rfl, rfl⟩ := h
    exact ⟨rfl, hs⟩
  · rename_i id a' len' cap'
    split at h
    · rename_i a2 len2 cap2 sz2 rd2 ho2
      split at h
      · rename_i heq
        obtain ⟨rfl, rfl, rfl⟩ := heq
        simp only [Option.some.injEq, Prod.mk.injEq] at h
        obtain ⟨rfl, rfl, rfl, rfl, rfl⟩ := h
        exact ⟨rfl, ho _ _ ho2⟩
      · cases h
    · cases h
  · cases h
def vIndexAddr (P : Program) (st : St) (t : TypeId) (x ix : Operand) (K : SV → Prop) : Prop :=
  match tk P t, ev st.env x, ev st.env ix with
  | .slice e, some s, some (.i _ n) =>
    (match asRead st.own s with
    | some (a, len, _, sz, rd) => (0 ≤ n ∧ n < (len : Int)) ∧ (tsz P e = sz ∧ 0 < sz) ∧ K (.el ((a.getD default).add (n.toNat * sz)) sz (fun j => rd n.toNat j))
    | none => match s with
      | .os id a len cap => (match st.own[id]? with
        | some (.row a' _ len' cap' sz _) => (a' = a ∧ len' = len ∧ cap' = cap) ∧ (0 ≤ n ∧ n < (len : Int)) ∧ (tsz P e = sz ∧ 0 < sz) ∧ K (.oe id (a.getD default).block (n.toNat * sz) n.toNat 0)
        | _ => False)
      | .ow id a sz0 off len cap => (match st.own[id]? with
        | some (.row a' _ len' cap' sz _) => (a' = a ∧ sz0 = sz ∧ len' = off + len ∧ cap' = off + cap) ∧ (0 ≤ n ∧ n < (len : Int)) ∧ (tsz P e = sz ∧ 0 < sz) ∧ K (.oe id (a.getD default).block ((off + n.toNat) * sz) (off + n.toNat) 0)
        | _ => False)
      | _ => False)
  | .array len e, some (.op id blk o), some (.i _ n) => (0 ≤ n ∧ n < (len : Int)) ∧ 0 < tsz P e ∧ K (.op id blk (o + n.toNat * tsz P e))
  | .array len e, some (.el a m rd), some (.i _ n) => (0 ≤ n ∧ n < (len : Int)) ∧ 0 < tsz P e ∧ len * tsz P e ≤ m ∧ K (.el (a.add (n.toNat * tsz P e)) (tsz P e) (fun j => rd (n.toNat * tsz P e + j)))
  | _, _, _ => False
theorem run_indexAt_slice {t e : TypeId} (ht : tk P t = .slice e) (hz : 0 < tsz P e) (ad : Addr) (len cap : Nat) (k : IntKind) (n : Int) (h0 : 0 ≤ n) (h1 : n < (len : Int)) (w : World) :
    (Instr.indexAt t (.slice (some ad) len cap) (.int k n)).run P w = .ok (.pointer (some (ad.add (n.toNat * tsz P e)))) w := by
  have hs := run_sizeOf hz w
  simp [Instr.indexAt, asIntOf, run_underlying (tk_slice ht), hs, h0, h1]
theorem run_indexAt_array {t e : TypeId} {len : Nat} (ht : tk P t = .array len e) (hz : 0 < tsz P e) (ad : Addr) (k : IntKind) (n : Int) (h0 : 0 ≤ n) (h1 : n < (len : Int)) (w : World) :
    (Instr.indexAt t (.pointer (some ad)) (.int k n)).run P w = .ok (.pointer (some (ad.add (n.toNat * tsz P e)))) w := by
  have hs := run_sizeOf hz w
  simp [Instr.indexAt, asIntOf, run_underlying (tk_array ht), hs, h0, h1, Instr.sureAddr]
theorem vIndexAddr_ok {t : TypeId} {x ix : Operand} (h : vIndexAddr P st t x ix K) : Vok P st (.indexAddr t x ix) K := by
  unfold vIndexAddr at h
  split at h
  · rename_i e s k n ht hx hi
    split at h
    · rename_i ad len cap sz rd hr
      obtain ⟨⟨h0, h1⟩, ⟨hz, hz0⟩, h⟩ := h
      subst hz
      refine ⟨_, h, fun R B a w he ho => ?_⟩
      obtain ⟨hd, _, _, hok⟩ := asRead_ok hr ho (ev_ok he hx).2
      rcases hok with hok | ⟨blk, off, rfl, hR, hc⟩
      · omega
      · refine ⟨⟨blk, off + n.toNat * tsz P e, Addr.add_lit _ _ _, hR, fun j hj => hc n.toNat j (by omega) hj⟩, yall fun w o ho' => ?_⟩
        simp [execOp, ho', (ev_ok he hx).1, (ev_ok he hi).1, SV.den, hd, run_indexAt_slice ht hz0 _ _ _ _ _ h0 h1]
    · split at h
      · rename_i id a' len' cap'
        split at h
        · rename_i a2 e2 len2 cap2 sz2 rd2 ho2
          obtain ⟨⟨rfl, rfl, rfl⟩, ⟨h0, h1⟩, ⟨hz, hz0⟩, h⟩ := h
          subst hz
          refine ⟨_, h, fun R B a w he ho => ⟨trivial, yall fun w o ho' => ?_⟩⟩
          have hrow := (ho _ _ ho2).1
          rcases hrow.2 with ⟨_, hn⟩ | ⟨g, cap, cur, hv, _⟩
          · omega
          · simp only [Value.slice.injEq] at hv
            obtain ⟨rfl, _, rfl⟩ := hv
            simp [execOp, ho', (ev_ok he hx).1, (ev_ok he hi).1, SV.den, run_indexAt_slice ht hz0 _ _ _ _ _ h0 h1, Addr.add_lit]
        · exact h.elim
      · rename_i id a' sz0 off len' cap' _
        split at h
        · rename_i a2 e2 len2 cap2 sz2 rd2 ho2
          obtain ⟨⟨rfl, rfl, rfl, rfl⟩, ⟨h0, h1⟩, ⟨hz, hz0⟩, h⟩ := h
          subst hz
          refine ⟨_, h, fun R B a w he ho => ⟨trivial, yall fun w o ho' => ?_⟩⟩
          have hrow := (ho _ _ ho2).1
          rcases hrow.2 with ⟨_, hn⟩ | ⟨g, cap, cur, hv, _, _, hnc, _⟩
          · omega
          · simp only [Value.slice.injEq] at hv
            obtain ⟨rfl, _, rfl⟩ := hv
            have hc0 : cap' ≠ 0 := by omega
            simp [execOp, ho', (ev_ok he hx).1, (ev_ok he hi).1, SV.den, hc0, run_indexAt_slice ht hz0 _ _ _ _ _ h0 h1, Addr.add_lit, Nat.add_mul, Nat.add_assoc]
        · exact h.elim
      · exact h.elim
  · rename_i len e id blk o1 k n ht hx hi
    obtain ⟨⟨h0, h1⟩, hz0, h⟩ := h
    refine ⟨_, h, fun R B a w he ho => ⟨trivial, yall fun w o ho' => ?_⟩⟩
    simp [execOp, ho', (ev_ok he hx).1, (ev_ok he hi).1, SV.den, run_indexAt_array ht hz0 _ _ _ h0 h1, Addr.add_lit]
  · rename_i len e ad m rd k n ht hx hi
    obtain ⟨⟨h0, h1⟩, hz0, hm, h⟩ := h
    refine ⟨_, h, fun R B a w he ho => ⟨el_ok (ev_ok he hx).2 ?_, yall fun w o ho' => ?_⟩⟩
    · have h2 : n.toNat + 1 ≤ len := by omega
      have := Nat.mul_le_mul_right (tsz P e) h2
      rw [Nat.add_mul] at this
      omega
    · simp [execOp, ho', (ev_ok he hx).1, (ev_ok he hi).1, SV.den, run_indexAt_array ht hz0 _ _ _ h0 h1]
  · exact h.elim
/-! ### Indexes of strings and of arrays that are values -/
def byteAt (s : ByteArray) (i : Nat) : Int := ((s[i]?).getD 0).toNat
end Eng
end Go.Proofs.YtpkmnggfomllhaaDoor
