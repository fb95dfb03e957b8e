/- The evaluator: a row of the call's own is cut (x[:k]). -/
import Derived.Laws.OwnMore
import Derived.Test.YtpkmnggfomllhaaDoorEngI
import Derived.Lib.AppendZeros
set_option linter.unusedSimpArgs false
set_option linter.unusedVariables false
namespace Go.Proofs.YtpkmnggfomllhaaDoor
namespace Eng
def isRow (own : List Own) : Option SV → Bool
  | some (.os id _ _ _) => (match own[id]? with | some (.row _ _ _ _ _ _) => true | _ => false)
  | _ => false
def sCut (P : Program) (st : St) (dst : Option Tmp) (t : TypeId) (x : Operand) (lo hi : Option Operand) (k : St → Prop) : Prop :=
  match tk P t, ev st.env x with
  | .slice e, some (.os id a len cap) => (match st.own[id]? with
    | some (.row a1 e1 len1 cap1 sz rd) => (match bound st.env lo 0, bound st.env hi len with
      | some l, some h => (a1 = a ∧ len1 = len ∧ cap1 = cap ∧ tsz P e = sz ∧ 0 < sz) ∧ (if lo.isSome = true ∧ hi.isNone = true then (0 ≤ l ∧ l ≤ (len : Int)) ∧ k (st.put dst (.ow id a sz l.toNat (len - l.toNat) (cap - l.toNat))) else (l = 0 ∧ 0 ≤ h ∧ h ≤ (len : Int)) ∧ k (St.put { st with own := st.own.set id (.row a e1 h.toNat cap sz rd) } dst (.os id a h.toNat cap)))
      | _, _ => False)
    | _ => False)
  | _, _ => False
section
variable {P : Program} {F : Frm} {st : St} {k : St → Prop} {dst : Option Tmp}
theorem cellsOf_take {len h sz : Nat} {rd : Nat → Nat → SV} (hl : h ≤ len) : cellsOf h sz rd = (cellsOf len sz rd).take (h * sz) := by
  unfold cellsOf
  rw [← List.map_take, List.take_range, Nat.min_eq_left (Nat.mul_le_mul_right _ hl)]
theorem row_cut {R : Nat → Prop} {B : Nat} {w : World} {a : Option Addr} {e len cap sz : Nat} {rd : Nat → Nat → SV} (hr : (Own.row a e len cap sz rd).ok R B w) {h : Nat} (hl : h ≤ len) : (Own.row a e h cap sz rd).ok R B w := by
  obtain ⟨⟨h1, h2⟩, h3, h4⟩ := hr
  refine ⟨⟨by simp [cellsOf], ?_⟩, h3, fun i j hi hj => h4 i j (by omega) hj⟩
  rcases h2 with ⟨hv, h0⟩ | ⟨g, cap', cur, hv, hbg, hg, hn, hcm, hcs, hc⟩
  · simp only [Value.slice.injEq] at hv
    obtain ⟨rfl, _, rfl⟩ := hv
    exact .inl ⟨by simp; omega, by omega⟩
  · simp only [Value.slice.injEq] at hv
    obtain ⟨rfl, _, rfl⟩ := hv
    refine .inr ⟨g, cap, cur, rfl, hbg, hg, by omega, hcm, hcs, ?_⟩
    rw [cellsOf_take hl, ← hc, List.take_take, Nat.min_eq_left (Nat.mul_le_mul_right _ hl)]
theorem sCut_good {t : TypeId} {x : Operand} {lo hi : Option Operand} (hd : dstOk st dst) (h : sCut P st dst t x lo hi k) : Good P F (.slice t x lo hi none) dst st k := by
  unfold sCut at h
  rintro R0 w0 a w o next Q ho rfl ⟨ob, R, hr⟩ hk
  split at h
  · rename_i e id ad len cap ht hx
    split at h
    · rename_i a1 e1 len1 cap1 sz rd hid
      split at h
      · rename_i l hh hl1 hh1
        obtain ⟨⟨rfl, rfl, rfl, hz, hz0⟩, h⟩ := h
        subst hz
        have hrow := hr.own _ _ hid
        have hlc : len1 ≤ cap1 := by
          rcases hrow.1.2 with ⟨hv, h0⟩ | ⟨g, cap', cur, hv, _, _, hn, _⟩
          · simp only [Value.slice.injEq] at hv; omega
          · simp only [Value.slice.injEq] at hv; omega
        split at h
        · rename_i hwin
          obtain ⟨⟨h0, h1⟩, h⟩ := h
          have hhi : hi = none := by simpa using hwin.2
          subst hhi
          simp only [bound, Option.some.injEq] at hh1
          subst hh1
          have hb := run_sliceBounds (P := P) (w := w) (isSlice := true) (eval_bound hr.env hl1) (eval_bound (o := none) hr.env (d := (len1 : Int)) rfl) h0 h1 (Int.le_refl _) hlc
          simp only [Option.map_none, Int.toNat_natCast] at hb
          have hs := run_sizeOf hz0 w
          have hrun : (execOp a.eval o).run P w = .ok (.value (SV.ow id a1 (tsz P e) l.toNat (len1 - l.toNat) (cap1 - l.toNat)).den) w := by
            have hx' := (ev_ok hr.env hx).1
            simp only [SV.den] at hx'
            have e1 : (cap1 - l.toNat = 0) ↔ (cap1 = l.toNat) := by omega
            simp [execOp, ho, hx', Instr.sliceAt, Instr.slice, run_underlying (tk_slice ht), hb, hs, SV.den, e1]
          unfold Oper.wp
          rw [hrun]
          exact hk _ _ _ h ⟨ob, R, hr.put (s := .ow id a1 (tsz P e) l.toNat (len1 - l.toNat) (cap1 - l.toNat)) (dstOk_of hd) trivial⟩
        obtain ⟨⟨rfl, h1, h2⟩, h⟩ := h
        have hb := run_sliceBounds (P := P) (w := w) (isSlice := true) (eval_bound hr.env hl1) (eval_bound hr.env hh1) (Int.le_refl 0) h1 h2 hlc
        have hs := run_sizeOf hz0 w
        have hrun : (execOp a.eval o).run P w = .ok (.value (.slice a1 hh.toNat cap1)) w := by
          have hx' := (ev_ok hr.env hx).1
          simp only [SV.den] at hx'
          simp [execOp, ho, hx', Instr.sliceAt, Instr.slice, run_underlying (tk_slice ht), hb, hs]
          cases a1 with
          | none => simp
          | some v =>
            have hv : v.add 0 = v := by
              rcases hrow.1.2 with ⟨hv, _⟩ | ⟨g, cap', cur, hv, _⟩
              · cases hv
              · simp only [Value.slice.injEq, Option.some.injEq] at hv
                obtain ⟨rfl, _⟩ := hv
                rfl
            simp [hv]
        unfold Oper.wp
        rw [hrun]
        have hidl : id < st.own.length := (List.getElem?_eq_some_iff.1 hid).1
        have hcut := row_cut hrow (h := hh.toNat) (by omega)
        have hblk : (Own.row a1 e1 hh.toNat cap1 (tsz P e) rd).blk = (Own.row a1 e1 len1 cap1 (tsz P e) rd).blk := by cases a1 <;> rfl
        have hnew : RelR F R0 w0 ob R { st with own := st.own.set id (.row a1 e1 hh.toNat cap1 (tsz P e) rd) } a w := by
          refine ⟨hr.defers, hr.env, hr.size, ?_, ?_, hr.evo, hr.inv, hr.obM, ?_, hr.obw, hr.rr, hr.r0⟩
          · intro i x hx
            rw [List.getElem?_set] at hx
            split at hx
            · simp only [hidl, if_true, Option.some.injEq] at hx
              subst hx
              exact hcut
            · exact hr.own i x hx
          · intro i j x y hij hx hy b hb1 hb2
            rw [List.getElem?_set] at hx hy
            split at hx <;> split at hy
            · omega
            · rename_i e1 _
              subst e1
              simp only [hidl, if_true, Option.some.injEq] at hx
              subst hx
              exact hr.dist id j _ y hij hid hy b (hblk ▸ hb1) hb2
            · rename_i _ e1
              subst e1
              simp only [hidl, if_true, Option.some.injEq] at hy
              subst hy
              exact hr.dist i id x _ hij hx hid b hb1 (hblk ▸ hb2)
            · exact hr.dist i j x y hij hx hy b hb1 hb2
          · exact gb_set (m := w0.w.heap.size) (Nat.le_refl _) hr.gb hid fun b hb => .inl (hblk ▸ hb)
        exact hk _ _ _ h ⟨ob, R, hnew.put (s := .os id a1 hh.toNat cap1) (dstOk_of hd) trivial⟩
      · exact h.elim
    · exact h.elim
  · exact h.elim
def rdEq' (len sz : Nat) (rd rd' : Nat → Nat → SV) : Prop := ∀ i j, i < len → j < sz → rd i j = rd' i j
theorem cellsOf_eq' {len sz : Nat} {rd rd' : Nat → Nat → SV} (h : rdEq' len sz rd rd') : cellsOf len sz rd = cellsOf len sz rd' := by
  unfold cellsOf
  apply List.map_congr_left
  intro q hq
  have hq' : q < len * sz := by simpa using hq
  have hz : 0 < sz := by
    rcases Nat.eq_zero_or_pos sz with h0 | h0
    · subst h0; simp at hq'
    · exact h0
  rw [h _ _ ((Nat.div_lt_iff_lt_mul hz).2 hq') (Nat.mod_lt _ hz)]
theorem RelR.rerd {R0 R : Nat → Prop} {w0 : Org} {w : World} {ob : Nat} {a : Act} (hr : RelR F R0 w0 ob R st a w) {id e len cap sz : Nat} {ad : Option Addr} {rd rd' : Nat → Nat → SV} (hid : st.own[id]? = some (.row ad e len cap sz rd)) (h : rdEq' len sz rd rd') :
    RelR F R0 w0 ob R { st with own := st.own.set id (.row ad e len cap sz rd') } a w := by
  have hidl : id < st.own.length := (List.getElem?_eq_some_iff.1 hid).1
  have hblk : (Own.row ad e len cap sz rd').blk = (Own.row ad e len cap sz rd).blk := by cases ad <;> rfl
  have hrow := hr.own _ _ hid
  have hok : (Own.row ad e len cap sz rd').ok R ob w := ⟨by rw [← cellsOf_eq' h]; exact hrow.1, hrow.2.1, fun i j hi hj => by rw [← h i j hi hj]; exact hrow.2.2 i j hi hj⟩
  refine ⟨hr.defers, hr.env, hr.size, ?_, ?_, hr.evo, hr.inv, hr.obM, ?_, hr.obw, hr.rr, hr.r0⟩
  · intro i x hx
    rw [List.getElem?_set] at hx
    split at hx
    · simp only [hidl, if_true, Option.some.injEq] at hx
      subst hx
      exact hok
    · exact hr.own i x hx
  · intro i j x y hij hx hy b hb1 hb2
    rw [List.getElem?_set] at hx hy
    split at hx <;> split at hy
    · omega
    · rename_i e1 _
      subst e1
      simp only [hidl, if_true, Option.some.injEq] at hx
      subst hx
      exact hr.dist id j _ y hij hid hy b (hblk ▸ hb1) hb2
    · rename_i _ e1
      subst e1
      simp only [hidl, if_true, Option.some.injEq] at hy
      subst hy
      exact hr.dist i id x _ hij hx hid b hb1 (hblk ▸ hb2)
    · exact hr.dist i j x y hij hx hy b hb1 hb2
  · exact gb_set (m := w0.w.heap.size) (Nat.le_refl _) hr.gb hid fun b hb => .inl (hblk ▸ hb)
def sZeros (P : Program) (st : St) (dst : Option Tmp) (t t' : TypeId) (x y : Operand) (k : St → Prop) : Prop :=
  match tk P t, tk P t', ev st.env x, ev st.env y with
  | .slice e, .int _, some (.sl none 0 0 _ _), some (.i _ m) => (0 < m ∧ m ≤ 9223372036854775807 ∧ m * (tby P e : Nat) ≤ 281474976710656) ∧ (0 < tsz P e ∧ (tz P e).length = tsz P e ∧ (tz P e).all oneS = true) ∧
    ∀ (a : Option Addr) (cap : Nat), k (St.put { st with own := st.own ++ [Own.row a e m.toNat cap (tsz P e) (fun _ j => (tz P e).getD j default)] } dst (.os st.own.length a m.toNat cap))
  | _, _, _, _ => False
theorem zero_cells {e : TypeId} {z : Value} (htz : (tz P e).length = tsz P e) (hz : 0 < tsz P e) (hzc : z.cells.toList = (tz P e).map SV.den) (n : Nat) : (Builtin.zeroCells z.cells n).toList = cellsOf n (tsz P e) (fun _ j => (tz P e).getD j default) := by
  have hzs : z.cells.size = tsz P e := by rw [← Array.length_toList, hzc, List.length_map, htz]
  unfold Builtin.zeroCells cellsOf
  simp only [Array.toList_map, Array.toList_range, hzs]
  apply List.map_congr_left
  intro q _
  have hm : q % tsz P e < tsz P e := Nat.mod_lt _ hz
  have hc : z.cells[q % tsz P e]? = (((tz P e).map SV.den)[q % tsz P e]?) := by rw [← hzc]; simp
  have hlt : q % tsz P e < (tz P e).length := by omega
  rw [getElem!_def, hc, List.getElem?_map, List.getElem?_eq_getElem hlt]
  simp [List.getD, hlt]
theorem tz_ok {e : TypeId} (R : Nat → Prop) (w : World) : ∀ s ∈ tz P e, s.ok R w := by
  intro s hs
  unfold tz at hs
  cases hi : (P.info? e).bind (·.zero) with
  | none => rw [hi] at hs; cases hs
  | some z =>
    rw [hi] at hs
    obtain ⟨x, _, rfl⟩ := List.mem_map.1 hs
    exact ok_svz _ _ _
theorem sZeros_good {t t' : TypeId} {x y : Operand} (hd : dstOk st dst) (h : sZeros P st dst t t' x y k) : Good P F (.call { callee := .builtin .append, args := #[x, y], argTypes := #[t, t'] }) dst st k := by
  unfold sZeros at h
  rintro R0 w0 a w o next Q ho rfl ⟨ob, R, hr⟩ hk
  split at h
  · rename_i e kn sz0 rd0 kk m ht ht' hx hy
    obtain ⟨⟨h0, h63, h48⟩, ⟨hz, htz, hone⟩, h⟩ := h
    obtain ⟨n, rfl⟩ := Int.eq_ofNat_of_zero_le (show 0 ≤ m by omega)
    have hne : tz P e ≠ [] := fun h => by rw [h] at htz; simp at htz; omega
    obtain ⟨i, z, hi, hiz, hzc⟩ := tz_info hne
    have hsi : i.size = tsz P e := by unfold tsz; simp [hi]
    have hbi : i.bytes = tby P e := by unfold tby; simp [hi]
    have hzs : z.cells.size = tsz P e := by rw [← Array.length_toList, hzc, List.length_map, htz]
    have hti : P.underlying t' = some (.int kn) := by unfold tk at ht'; split at ht' <;> simp_all
    have hrun := Lib.run_append_nil_zeros (P := P) w t t' o.type e i z kk kn (tk_slice ht) hti hi hiz n (by omega) (by omega) (by omega) (by rw [hbi]; omega)
    have hx' := (ev_ok hr.env hx).1
    have hy' := (ev_ok hr.env hy).1
    have hex : (execOp a.eval o).run P w = .ok (.value (.slice (some ⟨w.heap.size, 0, none⟩) n (grownCap w n 0 e))) (w.drew.alloc (.cells (Builtin.zeroCells z.cells n ++ Builtin.zeroCells z.cells (grownCap w n 0 e - n)) e)) := by
      unfold execOp
      rw [ho]
      simp only [SV.den] at hx' hy'
      simp only [resolve, invoke, builtin, Sem.run_bind, Sem.run_pure, Result.andThen_ok, List.map_toArray, List.map_cons, List.map_nil, hx', hy', hrun]
    unfold Oper.wp
    rw [hex]
    have hge := grownCap_ge w n 0 e
    have hcm : grownCap w n 0 e ≤ maxLen := grownCap_le_maxLen w n 0 e (by unfold maxLen; omega)
    have hold : ∀ b, b < w.heap.size → (w.drew.alloc (.cells (Builtin.zeroCells z.cells n ++ Builtin.zeroCells z.cells (grownCap w n 0 e - n)) e)).heap[b]? = w.heap[b]? := fun b hb => heap_alloc_old w.drew _ hb
    have hnew := hr.newRow (o := .row (some ⟨w.heap.size, 0, none⟩) e n (grownCap w n 0 e) (tsz P e) (fun _ j => (tz P e).getD j default)) (w' := w.drew.alloc (.cells (Builtin.zeroCells z.cells n ++ Builtin.zeroCells z.cells (grownCap w n 0 e - n)) e))
      ⟨rfl, rfl, rfl, by simp, fun b hb _ => hold b hb⟩ (fun b hb => by simpa [Own.blk] using hb.symm)
      ⟨⟨by simp [cellsOf], .inr ⟨w.heap.size, grownCap w n 0 e, _, rfl, hr.obw, heap_alloc_new w.drew _, hge, hcm, by
          rw [Array.size_append, size_zeroCells, size_zeroCells, hzs, ← Nat.add_mul]; congr 1; omega, by
          rw [Array.toList_append, zero_cells htz hz hzc n]
          have hl : (cellsOf n (tsz P e) (fun _ j => (tz P e).getD j default)).length = n * tsz P e := by simp [cellsOf]
          rw [← hl]
          exact List.take_left⟩⟩,
        fun g hg => by simp only [Option.some.injEq] at hg; subst hg; exact fun hc => by have := (hr.rr _ hc).1; simp at this,
        fun p q hp hq => by
          have hm : (tz P e).getD q default ∈ tz P e := getD_mem (by omega)
          exact ⟨one_den (List.all_eq_true.1 hone _ hm), tz_ok _ _ _ hm⟩⟩
    exact hk _ _ _ (h (some ⟨w.heap.size, 0, none⟩) (grownCap w n 0 e)) ⟨ob, R, hnew.put (s := .os st.own.length (some ⟨w.heap.size, 0, none⟩) n (grownCap w n 0 e)) (dstOk_of hd) trivial⟩
  · exact h.elim
def sMake (P : Program) (st : St) (dst : Option Tmp) (t : TypeId) (x y : Operand) (k : St → Prop) : Prop :=
  match tk P t, ev st.env x, ev st.env y with
  | .slice e, some (.i _ m'), some (.i _ m) => (m' = m ∧ 0 ≤ m ∧ m ≤ 4611686018427387903 ∧ m * (tby P e : Nat) ≤ 281474976710656) ∧ (0 < tsz P e ∧ (tz P e).length = tsz P e ∧ (tz P e).all oneS = true) ∧
    ∀ (a : Option Addr) (cap : Nat), k (St.put { st with own := st.own ++ [Own.row a e m.toNat cap (tsz P e) (fun _ j => (tz P e).getD j default)] } dst (.os st.own.length a m.toNat cap))
  | _, _, _ => False
theorem made_cells {e : TypeId} {z : Value} (htz : (tz P e).length = tsz P e) (hz : 0 < tsz P e) (hzc : z.cells.toList = (tz P e).map SV.den) (n : Nat) : (madeCells z.cells (n * tsz P e)).toList = cellsOf n (tsz P e) (fun _ j => (tz P e).getD j default) := by
  rw [← zero_cells htz hz hzc n]
  have hzs : z.cells.size = tsz P e := by rw [← Array.length_toList, hzc, List.length_map, htz]
  unfold Builtin.zeroCells madeCells
  rw [hzs]
theorem sMake_good {t : TypeId} {x y : Operand} (hd : dstOk st dst) (h : sMake P st dst t x y k) : Good P F (.makeSlice t x y) dst st k := by
  unfold sMake at h
  rintro R0 w0 a w o next Q ho rfl ⟨ob, R, hr⟩ hk
  split at h
  · rename_i e k1 m' k2 m ht hx hy
    obtain ⟨⟨rfl, h0, h63, h48⟩, ⟨hz, htz, hone⟩, h⟩ := h
    obtain ⟨n, rfl⟩ := Int.eq_ofNat_of_zero_le h0
    have hne : tz P e ≠ [] := fun h => by rw [h] at htz; simp at htz; omega
    obtain ⟨i, z, hi, hiz, hzc⟩ := tz_info hne
    have hsi : i.size = tsz P e := by unfold tsz; simp [hi]
    have hbi : i.bytes = tby P e := by unfold tby; simp [hi]
    have hx' := (ev_ok hr.env hx).1
    have hy' := (ev_ok hr.env hy).1
    have hb2 : i.bytes * n ≤ 281474976710656 := by
      rw [hbi, Nat.mul_comm]
      have : (n : Int) * (tby P e : Int) = ((n * tby P e : Nat) : Int) := by simp
      omega
    obtain ⟨w', hrun, hown, hgr⟩ := run_make_full (P := P) w ob t e i z (tsz P e) (tk_slice ht) hi hiz hsi k1 k2 n hb2 (by unfold maxLen; omega) hr.obw
    have hex : (execOp a.eval o).run P w = .ok (.value (.slice (some ⟨w.heap.size, 0, none⟩) n n)) w' := by
      unfold execOp
      rw [ho]
      simp only [SV.den] at hx' hy'
      simp only [Sem.run_bind, Sem.run_pure, Result.andThen_ok, hx', hy', hrun]
    unfold Oper.wp
    rw [hex]
    rw [made_cells htz hz hzc n] at hown
    have hnew := hr.newRow (o := .row (some ⟨w.heap.size, 0, none⟩) e n n (tsz P e) (fun _ j => (tz P e).getD j default)) hgr (fun b hb => by simpa [Own.blk] using hb.symm)
      ⟨hown, fun g hg => by simp only [Option.some.injEq] at hg; subst hg; exact fun hc => by have := (hr.rr _ hc).1; simp at this,
        fun p q hp hq => by
          have hm : (tz P e).getD q default ∈ tz P e := getD_mem (by omega)
          exact ⟨one_den (List.all_eq_true.1 hone _ hm), tz_ok _ _ _ hm⟩⟩
    exact hk _ _ _ (h (some ⟨w.heap.size, 0, none⟩) n) ⟨ob, R, hnew.put (s := .os st.own.length (some ⟨w.heap.size, 0, none⟩) n n) (dstOk_of hd) trivial⟩
  · exact h.elim
def sClear (P : Program) (st : St) (dst : Option Tmp) (t : TypeId) (x : Operand) (k : St → Prop) : Prop :=
  match tk P t, ev st.env x with
  | .slice e, some (.ow id a sz0 off len cap) => (match st.own[id]? with
    | some (.row a1 e1 len1 cap1 sz rd) => (a1 = a ∧ sz0 = sz ∧ len1 = off + len ∧ cap1 = off + cap) ∧ (0 < tsz P e ∧ tsz P e = sz ∧ (tz P e).length = sz ∧ (tz P e).all oneS = true) ∧
      k (St.put { st with own := st.own.set id (.row a1 e1 len1 cap1 sz (rdCat off rd fun _ j => (tz P e).getD j default)) } dst (.tup 0 fun _ => default))
    | _ => False)
  | _, _ => False
theorem row_clear {R : Nat → Prop} {B : Nat} {w : World} {g e off m cap sz : Nat} {rd rd' : Nat → Nat → SV} (h : (Own.row (some ⟨g, 0, none⟩) e (off + m) cap sz rd).ok R B w)
    (hone : ∀ i j, i < m → j < sz → (rd' i j).den.oneCell' = true ∧ (rd' i j).ok R w) (hRlt : ∀ b, R b → b < w.heap.size) : ∃ cur : Array Value, w.heap[g]? = some (.cells cur e (0, 0)) ∧ off * sz + m * sz ≤ cur.size ∧
      (Own.row (some ⟨g, 0, none⟩) e (off + m) cap sz (rdCat off rd rd')).ok R B (w.setRow g (cur.toList.take (off * sz) ++ cellsOf m sz rd' ++ cur.toList.drop (off * sz + (cellsOf m sz rd').length)).toArray) := by
  obtain ⟨ho, hR, hc⟩ := h
  have hgR : ¬ R g := hR _ rfl
  rcases ho.2 with ⟨hv, _⟩ | ⟨g', cap', cur, hv, hbg, hg, hn, hcm, hcs, ht⟩
  · cases hv
  simp only [Value.slice.injEq, Option.some.injEq, Addr.mk.injEq, and_true, true_and] at hv
  obtain ⟨rfl, rfl⟩ := hv
  have hlen : (cellsOf m sz rd').length = m * sz := by simp [cellsOf]
  have hle2 : (off + m) * sz ≤ cap * sz := Nat.mul_le_mul_right sz hn
  have hle : off * sz + m * sz ≤ cur.size := by rw [Nat.add_mul] at hle2; omega
  have hmono : ∀ s : SV, s.ok R w → s.ok R (w.setRow g (cur.toList.take (off * sz) ++ cellsOf m sz rd' ++ cur.toList.drop (off * sz + (cellsOf m sz rd').length)).toArray) := SV.ok_mono (fun _ h => h) (fun b hb => setRow_other w g b _ (fun e => by subst e; exact hgR hb))
  refine ⟨cur, hg, hle, ⟨⟨by simp [cellsOf], .inr ⟨g, cap, _, rfl, hbg, setRow_heap w g cur _ e _ hg, hn, hcm, ?_, ?_⟩⟩, hR, ?_⟩⟩
  · simp [hlen]; omega
  · rw [cellsOf_cat]
    have h1 : cellsOf off sz rd = cur.toList.take (off * sz) := by
      have h2 := cellsOf_take (sz := sz) (rd := rd) (show off ≤ off + m by omega)
      rw [h2, ← ht, List.take_take, Nat.min_eq_left (Nat.mul_le_mul_right _ (by omega))]
    rw [h1]
    have hl1 : (cur.toList.take (off * sz) ++ cellsOf m sz rd').length = (off + m) * sz := by
      rw [List.length_append, List.length_take, hlen, Nat.add_mul, Array.length_toList]; omega
    rw [← hl1]
    exact List.take_left
  · intro p q hp hq
    unfold rdCat
    split
    · exact ⟨(hc p q (by omega) hq).1, hmono _ (hc p q (by omega) hq).2⟩
    · exact ⟨(hone (p - off) q (by omega) hq).1, hmono _ (hone (p - off) q (by omega) hq).2⟩
theorem sClear_good {t : TypeId} {x : Operand} (hd : dstOk st dst) (h : sClear P st dst t x k) : Good P F (.call { callee := .builtin .clear, args := #[x], argTypes := #[t] }) dst st k := by
  unfold sClear at h
  rintro R0 w0 a w o next Q ho rfl ⟨ob, R, hr⟩ hk
  split at h
  · rename_i e id ad sz0 off len cap ht hx
    split at h
    · rename_i a1 e1 len1 cap1 sz rd hid
      obtain ⟨⟨rfl, rfl, rfl, rfl⟩, ⟨hz, rfl, htz, hone⟩, h⟩ := h
      have hrow := hr.own _ _ hid
      have hne : tz P e ≠ [] := fun h => by rw [h] at htz; simp at htz; omega
      obtain ⟨i, z, hi, hiz, hzc⟩ := tz_info hne
      have hzr : ∀ w : World, (zeroValue e).run P w = .ok z w := fun w => by simp [zeroValue, typeInfo, hi, hiz]
      have hrd : ∀ i j, i < len → j < tsz P e → ((fun (_ : Nat) j => (tz P e).getD j default) i j).den.oneCell' = true ∧ ((fun (_ : Nat) j => (tz P e).getD j default) i j).ok R w := fun i j _ hj => by
        have hm : (tz P e).getD j default ∈ tz P e := getD_mem (by omega)
        exact ⟨one_den (List.all_eq_true.1 hone _ hm), tz_ok _ _ _ hm⟩
      have hx' := (ev_ok hr.env hx).1
      have run : ∀ w', (Builtin.clear_ #[t] o.type #[(SV.ow id a1 (tsz P e) off len cap).den]).run P w = .ok (.tuple #[]) w' → (execOp a.eval o).run P w = .ok (.value (.tuple #[])) w' := by
        intro w' hrun
        unfold execOp
        rw [ho]
        simp only [resolve, invoke, builtin, Sem.run_bind, Sem.run_pure, Result.andThen_ok, List.map_toArray, List.map_cons, List.map_nil, hx', hrun]
      have same : len = 0 → k (St.put { st with own := st.own.set id (.row a1 e1 (off + len) (off + cap) (tsz P e) (rdCat off rd fun _ j => (tz P e).getD j default)) } o.dst (.tup 0 fun _ => default)) → o.wp P a w next Q := by
        intro h0 h
        subst h0
        have hex := run w (by
          cases a1 with
          | none => simp [Builtin.clear_, SV.den, run_underlying (tk_slice ht)]
          | some v => by_cases hc : cap = 0 <;> simp [Builtin.clear_, SV.den, run_underlying (tk_slice ht), hc])
        unfold Oper.wp
        rw [hex]
        have hrd0 : rdEq' (off + 0) (tsz P e) rd (rdCat off rd fun _ j => (tz P e).getD j default) := fun p q hp hq => by unfold rdCat; rw [if_pos (by omega)]
        exact hk _ _ _ h ⟨ob, R, (hr.rerd hid hrd0).put (s := .tup 0 fun _ => default) (dstOk_of hd) (fun j hj => absurd hj (Nat.not_lt_zero _))⟩
      by_cases h0 : len = 0
      · exact same h0 h
      obtain ⟨g, rfl, _⟩ := row_cell hrow (show off < off + len by omega) hz
      obtain ⟨cur, hg, hcur, hrow'⟩ := row_clear (rd' := fun _ j => (tz P e).getD j default) hrow hrd (fun b hb => (hr.rr b hb).1)
      have hzl := zero_cells (P := P) htz hz hzc len
      have hzlen : (cellsOf len (tsz P e) fun _ j => (tz P e).getD j default).length = len * tsz P e := by simp [cellsOf]
      have hst := run_storeCells_at P g (off * tsz P e) e1 (cellsOf len (tsz P e) fun _ j => (tz P e).getD j default) 0 cur w hg (by rw [hzlen]; omega) (cellsOf_one fun i j hi hj => (hrd i j hi hj).1)
      simp only [Nat.add_zero] at hst
      have hcap : cap ≠ 0 := by
        rcases hrow.1.2 with ⟨hv, _⟩ | ⟨g', cap', cur', hv, _, _, hn, _⟩
        · cases hv
        · simp only [Value.slice.injEq] at hv
          omega
      have hex := run (w.setRow g (cur.toList.take (off * tsz P e) ++ (cellsOf len (tsz P e) fun _ j => (tz P e).getD j default) ++ cur.toList.drop (off * tsz P e + (cellsOf len (tsz P e) fun _ j => (tz P e).getD j default).length)).toArray) (by
        obtain ⟨len', rfl⟩ : ∃ len', len = len' + 1 := ⟨len - 1, by omega⟩
        simp only [Builtin.clear_, SV.den, Sem.run_bind, run_underlying (tk_slice ht), Result.andThen_ok, if_neg hcap, Option.map_some, Addr.add_lit, Nat.zero_add, List.getElem?_toArray, List.getElem?_cons_zero]
        simp only [Sem.run_bind, run_underlying (tk_slice ht), Result.andThen_ok, hzr, hzl, hst, Sem.run_pure])
      unfold Oper.wp
      rw [hex]
      have hnew := hr.setOwn (o' := .row (some ⟨g, 0, none⟩) e1 (off + len) (off + cap) (tsz P e) (rdCat off rd fun _ j => (tz P e).getD j default)) (g := g) hid rfl (fun b hb => by simpa [Own.blk] using hb.symm) (w' := w.setRow g (cur.toList.take (off * tsz P e) ++ (cellsOf len (tsz P e) fun _ j => (tz P e).getD j default) ++ cur.toList.drop (off * tsz P e + (cellsOf len (tsz P e) fun _ j => (tz P e).getD j default).length)).toArray) rfl rfl rfl (by simp [World.setRow]) (fun b _ hne => setRow_other w g b _ hne) hrow'
      exact hk _ _ _ h ⟨ob, R, hnew.put (s := .tup 0 fun _ => default) (dstOk_of hd) (fun j hj => absurd hj (Nat.not_lt_zero _))⟩
    · exact h.elim
  · exact h.elim
end
end Eng
end Go.Proofs.YtpkmnggfomllhaaDoor
