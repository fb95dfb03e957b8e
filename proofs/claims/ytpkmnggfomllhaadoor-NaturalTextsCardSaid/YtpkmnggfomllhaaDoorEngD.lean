/- The evaluator, part D: loads, parts of values, lengths. -/
import Derived.Test.YtpkmnggfomllhaaDoorEngC
set_option linter.unusedSimpArgs false
set_option linter.unusedVariables false
namespace Go.Proofs.YtpkmnggfomllhaaDoor
namespace Eng
variable {P : Program} {st : St} {K : SV → Prop}
def isAggT (P : Program) (t : TypeId) : Bool := match tk P t with | .struct _ => true | .array _ _ => true | _ => false
theorem run_isAgg_T {t : TypeId} (h : isAggT P t = true) (w : World) : (isAgg t).run P w = .ok true w := by
  unfold isAggT at h
  split at h
  · rename_i l hl; exact run_isAgg_agg (.inl ⟨l, hl⟩) w
  · rename_i n e hl; exact run_isAgg_agg (.inr ⟨n, e, hl⟩) w
  · cases h
theorem run_loadAt_plain {t : TypeId} (h : tplain P t = true) {ad : Addr} {v : Value} {w : World} (hc : w.cell? ad = some v) : (Instr.loadAt t (.pointer (some ad))).run P w = .ok v w := by
  simp [Instr.loadAt, Instr.sureAddr, loadVar, run_isAgg_plain h, hc]
theorem run_loadAt_agg {t : TypeId} (h : isAggT P t = true) (hz : 0 < tsz P t) {ad : Addr} {f : Nat → Value} {w : World} (hc : ∀ j, j < tsz P t → w.cell? (ad.add j) = some (f j)) :
    (Instr.loadAt t (.pointer (some ad))).run P w = .ok (.agg ((List.range (tsz P t)).map f).toArray) w := by
  have h1 := run_sizeOf hz w
  have h2 := run_loadCells (P := P) w ad (tsz P t) f hc
  simp [Instr.loadAt, Instr.sureAddr, loadVar, run_isAgg_T h, h1, h2]
theorem cellsOf_get {len sz : Nat} {rd : Nat → Nat → SV} {i j : Nat} (hi : i < len) (hj : j < sz) : (cellsOf len sz rd)[i * sz + j]? = some (rd i j).den := by
  have h1 : i * sz + j < len * sz := by
    have := Nat.mul_le_mul_right sz (show i + 1 ≤ len by omega)
    rw [Nat.add_mul] at this; omega
  have h2 : (i * sz + j) / sz = i := by rw [Nat.mul_comm, Nat.mul_add_div (by omega), Nat.div_eq_of_lt hj]; rfl
  have h3 : (i * sz + j) % sz = j := by rw [Nat.mul_comm, Nat.mul_add_mod, Nat.mod_eq_of_lt hj]
  unfold cellsOf
  rw [List.getElem?_map, List.getElem?_range h1, Option.map_some, h2, h3]
def vLoad (P : Program) (st : St) (t : TypeId) (x : Operand) (K : SV → Prop) : Prop :=
  match ev st.env x with
  | some (.el _ n rd) => (match tplain P t with
    | true => 0 < n ∧ K (rd 0)
    | false => isAggT P t = true ∧ (0 < tsz P t ∧ tsz P t ≤ n) ∧ K (.agg (tsz P t) rd))
  | some (.op id blk o) => (match st.own[id]? with
    | some (.box blk' _ cs) => blk' = blk ∧ (match tplain P t with
      | true => (match cs[o]? with | some s => K s | none => False)
      | false => isAggT P t = true ∧ (0 < tsz P t ∧ o + tsz P t ≤ cs.length) ∧ K (.agg (tsz P t) (fun j => cs.getD (o + j) default)))
    | _ => False)
  | some (.oe id blk o ix j) => (match st.own[id]? with
    | some (.row a _ len _ sz rd) => ((a.getD default).block = blk ∧ ix * sz + j = o) ∧ ix < len ∧ (match tplain P t with
      | true => j < sz ∧ K (rd ix j)
      | false => isAggT P t = true ∧ (0 < tsz P t ∧ j + tsz P t ≤ sz) ∧ K (.agg (tsz P t) (fun q => rd ix (j + q))))
    | _ => False)
  | _ => False
theorem row_cell {R : Nat → Prop} {B : Nat} {w : World} {a : Option Addr} {e len cap sz : Nat} {rd : Nat → Nat → SV} (h : (Own.row a e len cap sz rd).ok R B w) {i j : Nat} (hi : i < len) (hj : j < sz) :
    ∃ g, a = some ⟨g, 0, none⟩ ∧ w.cell? ⟨g, i * sz + j, none⟩ = some (rd i j).den := by
  obtain ⟨h1, _⟩ := h
  have h2 := cellsOf_get (rd := rd) hi hj
  rcases h1.2 with ⟨_, hn⟩ | ⟨g, cap', cur, hv, _, hg, _, _, _, ht⟩
  · omega
  · simp only [Value.slice.injEq] at hv
    obtain ⟨rfl, _, rfl⟩ := hv
    refine ⟨g, rfl, ?_⟩
    have := h1.cells (g := g) rfl _ _ h2
    rwa [Addr.add_lit, Nat.zero_add] at this
theorem vLoad_ok {t : TypeId} {x : Operand} (h : vLoad P st t x K) : Vok P st (.load t x) K := by
  unfold vLoad at h
  split at h
  · rename_i ad n rd hx
    split at h
    · rename_i htp
      obtain ⟨hn, h⟩ := h
      refine ⟨_, h, fun R B a w he _ => ?_⟩
      obtain ⟨hd, blk, off, rfl, hR, hc⟩ := ev_ok he hx
      refine ⟨(hc 0 hn).2.2, yone rfl fun o ho => ?_⟩
      have h0 : w.cell? ⟨blk, off, none⟩ = some (rd 0).den := (hc 0 hn).1
      simp only [execOp, ho, hd, SV.den, Sem.run_bind, run_loadAt_plain htp h0]
      rfl
    · obtain ⟨hag, ⟨hz, hn⟩, h⟩ := h
      refine ⟨_, h, fun R B a w he _ => ?_⟩
      obtain ⟨hd, blk, off, rfl, hR, hc⟩ := ev_ok he hx
      refine ⟨fun j hj => (hc j (by omega)).2.2, yone rfl fun o ho => ?_⟩
      have := run_loadAt_agg hag hz (ad := ⟨blk, off, none⟩) (f := fun j => (rd j).den) (w := w) (fun j hj => by rw [Addr.add_lit]; exact (hc j (by omega)).1)
      simp [execOp, ho, hd, SV.den, this]
  · rename_i id blk o1 hx
    split at h
    · rename_i blk' ty cs ho2
      obtain ⟨rfl, h⟩ := h
      split at h
      · rename_i htp
        split at h
        · rename_i s hs
          refine ⟨_, h, fun R B a w he ho => ?_⟩
          obtain ⟨_, _, hg, hcs⟩ := ho _ _ ho2
          refine ⟨(hcs s (List.mem_of_getElem? hs)).2, yone rfl fun o ho' => ?_⟩
          have hc : w.cell? ⟨blk', o1, none⟩ = some s.den := by rw [cell_of_row w blk' o1 _ _ _ hg]; simp [hs]
          simp [execOp, ho', (ev_ok he hx).1, SV.den, run_loadAt_plain htp hc]
        · exact h.elim
      · obtain ⟨hag, ⟨hz, hn⟩, h⟩ := h
        refine ⟨_, h, fun R B a w he ho => ?_⟩
        obtain ⟨_, _, hg, hcs⟩ := ho _ _ ho2
        have hget : ∀ j, j < tsz P t → cs[o1 + j]? = some (cs.getD (o1 + j) default) := fun j hj => by simp [List.getD, show o1 + j < cs.length by omega]
        refine ⟨fun j hj => (hcs _ (List.mem_of_getElem? (hget j hj))).2, yone rfl fun o ho' => ?_⟩
        have := run_loadAt_agg hag hz (ad := ⟨blk', o1, none⟩) (f := fun j => (cs.getD (o1 + j) default).den) (w := w) (fun j hj => by
          rw [Addr.add_lit, cell_of_row w blk' _ _ _ _ hg, List.getElem?_toArray, List.getElem?_map, hget j hj]; rfl)
        simp only [execOp, ho', (ev_ok he hx).1, SV.den, Sem.run_bind, this]
        rfl
    · exact h.elim
  · rename_i id blk o1 ix j hx
    split at h
    · rename_i ad e len cap sz rd ho2
      obtain ⟨⟨hb, rfl⟩, hix, h⟩ := h
      split at h
      · rename_i htp
        obtain ⟨hj, h⟩ := h
        refine ⟨_, h, fun R B a w he ho => ?_⟩
        obtain ⟨g, rfl, hc⟩ := row_cell (ho _ _ ho2) hix hj
        subst hb
        refine ⟨((ho _ _ ho2).2.2 _ _ hix hj).2, yone rfl fun o ho' => ?_⟩
        simp only [execOp, ho', (ev_ok he hx).1, SV.den, Sem.run_bind]
        show ((Instr.loadAt t (.pointer (some ⟨g, ix * sz + j, none⟩))).run P w).andThen _ = _
        rw [run_loadAt_plain htp (ad := ⟨g, ix * sz + j, none⟩) hc]
        rfl
      · obtain ⟨hag, ⟨hz, hn⟩, h⟩ := h
        refine ⟨_, h, fun R B a w he ho => ?_⟩
        obtain ⟨g, rfl, _⟩ := row_cell (ho _ _ ho2) hix (show j < sz by omega)
        subst hb
        refine ⟨fun q hq => ((ho _ _ ho2).2.2 _ _ hix (by omega)).2, yone rfl fun o ho' => ?_⟩
        have := run_loadAt_agg hag hz (ad := ⟨g, ix * sz + j, none⟩) (f := fun q => (rd ix (j + q)).den) (w := w) (fun q hq => by
          obtain ⟨g', hg', hc⟩ := row_cell (ho _ _ ho2) hix (show j + q < sz by omega)
          simp only [Option.some.injEq, Addr.mk.injEq] at hg'
          obtain ⟨rfl, _⟩ := hg'
          rw [Addr.add_lit, Nat.add_assoc]; exact hc)
        simp only [execOp, ho', (ev_ok he hx).1, SV.den, Sem.run_bind]
        show ((Instr.loadAt t (.pointer (some ⟨g, ix * sz + j, none⟩))).run P w).andThen _ = _
        rw [this]
        rfl
    · exact h.elim
  · exact h.elim
/-! ### A part of a struct's value -/
def vField (P : Program) (st : St) (t : TypeId) (x : Operand) (f : Nat) (K : SV → Prop) : Prop :=
  match fieldOf P t f, ev st.env x with
  | some (off, ft), some (.agg n rd) => (match tplain P ft with
    | true => off < n ∧ K (rd off)
    | false => isAggT P ft = true ∧ (0 < tsz P ft ∧ off + tsz P ft ≤ n) ∧ K (.agg (tsz P ft) (fun j => rd (off + j))))
  | _, _ => False
theorem vField_ok {t : TypeId} {x : Operand} {f : Nat} (h : vField P st t x f K) : Vok P st (.field t x f) K := by
  unfold vField at h
  split at h
  · rename_i off ft n rd hf hx
    obtain ⟨fs, g, hu, hg, rfl, rfl⟩ := fieldOf_ok hf
    split at h
    · rename_i htp
      obtain ⟨hn, h⟩ := h
      refine ⟨_, h, fun R B a w he _ => ⟨(ev_ok he hx).2 _ hn, yone rfl fun o ho => ?_⟩⟩
      simp [execOp, ho, (ev_ok he hx).1, SV.den, Instr.field, run_underlying hu, hg, part, run_isAgg_plain htp, asAgg, hn]
    · obtain ⟨hag, ⟨hz, hn⟩, h⟩ := h
      refine ⟨_, h, fun R B a w he _ => ⟨fun j hj => (ev_ok he hx).2 _ (by omega), yone rfl fun o ho => ?_⟩⟩
      have h1 := run_sizeOf hz w
      simp only [execOp, ho, (ev_ok he hx).1, SV.den, Instr.field, run_underlying hu, hg, part, run_isAgg_T hag, asAgg, h1, Sem.run_bind, Result.andThen_ok, if_true, Sem.run_pure]
      have key : (((List.range n).map fun j => (rd j).den).toArray).extract g.offset (g.offset + tsz P g.type) = ((List.range (tsz P g.type)).map fun j => (rd (g.offset + j)).den).toArray := by
        apply Array.ext'
        rw [Array.toList_extract]
        simp only [List.extract_eq_take_drop]
        apply List.ext_getElem?
        intro j
        rw [List.getElem?_take, Nat.add_sub_cancel_left]
        by_cases hj : j < tsz P g.type
        · rw [if_pos hj, List.getElem?_drop, List.getElem?_map, List.getElem?_map, List.getElem?_range (by omega), List.getElem?_range hj]; rfl
        · rw [if_neg hj, List.getElem?_eq_none (by simp; omega)]
      rw [key]
  · exact h.elim
theorem extract_rd (n : Nat) (rd : Nat → SV) (o z : Nat) (hn : o + z ≤ n) : (((List.range n).map fun j => (rd j).den).toArray).extract o (o + z) = ((List.range z).map fun j => (rd (o + j)).den).toArray := by
  apply Array.ext'
  rw [Array.toList_extract]
  simp only [List.extract_eq_take_drop]
  apply List.ext_getElem?
  intro j
  rw [List.getElem?_take, Nat.add_sub_cancel_left]
  by_cases hj : j < z
  · rw [if_pos hj, List.getElem?_drop, List.getElem?_map, List.getElem?_map, List.getElem?_range (by omega), List.getElem?_range hj]; rfl
  · rw [if_neg hj, List.getElem?_eq_none (by simp; omega)]
def vIndex (P : Program) (st : St) (t : TypeId) (x ix : Operand) (K : SV → Prop) : Prop :=
  match tk P t, ev st.env x, ev st.env ix with
  | .str, some (.v (.string s)), some (.i _ n) => (0 ≤ n ∧ n < (s.size : Int)) ∧ K (.i .u8 (byteAt s n.toNat))
  | .array len e, some (.agg m rd), some (.i _ n) => (0 ≤ n ∧ n < (len : Int)) ∧ (match tplain P e with
    | true => (0 < tsz P e ∧ n.toNat * tsz P e < m) ∧ K (rd (n.toNat * tsz P e))
    | false => isAggT P e = true ∧ (0 < tsz P e ∧ n.toNat * tsz P e + tsz P e ≤ m) ∧ K (.agg (tsz P e) fun j => rd (n.toNat * tsz P e + j)))
  | _, _, _ => False
theorem vIndex_ok {t : TypeId} {x ix : Operand} (h : vIndex P st t x ix K) : Vok P st (.index t x ix) K := by
  unfold vIndex at h
  split at h
  · rename_i s k n ht hx hi
    obtain ⟨⟨h0, h1⟩, h⟩ := h
    refine ⟨_, h, fun R B a w he _ => ⟨trivial, yall fun w o ho => ?_⟩⟩
    have hlt : n.toNat < s.size := by omega
    have hg : s[n.toNat]? = some s[n.toNat] := by simp [hlt]
    simp [execOp, ho, (ev_ok he hx).1, (ev_ok he hi).1, SV.den, Instr.index, asIntOf, run_underlying (tk_str ht), h0, hg, byteAt]
  · rename_i len e m rd k n ht hx hi
    obtain ⟨⟨h0, h1⟩, h⟩ := h
    split at h
    · rename_i hp
      obtain ⟨⟨hz, hm⟩, h⟩ := h
      refine ⟨_, h, fun R B a w he _ => ⟨(ev_ok he hx).2 _ hm, yall fun w o ho => ?_⟩⟩
      have hs := run_sizeOf hz w
      simp [execOp, ho, (ev_ok he hx).1, (ev_ok he hi).1, SV.den, Instr.index, asIntOf, run_underlying (tk_array ht), h0, h1, hs, part, run_isAgg_plain hp, hm]
    · obtain ⟨hag, ⟨hz, hm⟩, h⟩ := h
      refine ⟨_, h, fun R B a w he _ => ⟨fun j hj => (ev_ok he hx).2 _ (by omega), yall fun w o ho => ?_⟩⟩
      have hs := run_sizeOf hz w
      simp only [execOp, ho, (ev_ok he hx).1, (ev_ok he hi).1, SV.den, Instr.index, asIntOf, run_underlying (tk_array ht), h0, h1, and_self, if_true, hs, part, run_isAgg_T hag, Sem.run_bind, Result.andThen_ok, Sem.run_pure, extract_rd m rd _ _ hm]
  · exact h.elim
end Eng
end Go.Proofs.YtpkmnggfomllhaaDoor
