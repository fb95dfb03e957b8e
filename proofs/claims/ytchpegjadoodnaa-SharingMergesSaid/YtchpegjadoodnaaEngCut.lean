/- The evaluator: a row of the call's own is cut (x[:k]). -/
import Derived.Test.YtchpegjadoodnaaEngI
import Derived.Lib.AppendZeros
set_option linter.unusedSimpArgs false
set_option linter.unusedVariables false
namespace Go.Proofs.Ytchpegjadoodnaa
namespace Eng

/-- is it a row of the call's own -/
def isRow (own : List Own) : Option SV → Bool
  | some (.os id _ _ _) => (match own[id]? with | some (.row _ _ _ _ _ _) => true | _ => false)
  | _ => false

/-- x[:h] of a row of the call's own: the row is h long from now on -/
def sCut (P : Program) (st : St) (dst : Option Tmp) (t : TypeId) (x : Operand) (lo hi : Option Operand) (k : St → Prop) : Prop :=
  match tk P t, ev st.env x with
  | .slice e, some (.os id a len cap) => (match st.own[id]? with
    | some (.row a1 e1 len1 cap1 sz rd) => (match bound st.env lo 0, bound st.env hi len with
      | some l, some h => (a1 = a ∧ len1 = len ∧ cap1 = cap ∧ tsz P e = sz ∧ 0 < sz) ∧ (l = 0 ∧ 0 ≤ h ∧ h ≤ (len : Int)) ∧ k (St.put { st with own := st.own.set id (.row a e1 h.toNat cap sz rd) } dst (.os id a h.toNat cap))
      | _, _ => False)
    | _ => False)
  | _, _ => False

section
variable {P : Program} {F : Frm} {st : St} {k : St → Prop} {dst : Option Tmp}
theorem cellsOf_take {len h sz : Nat} {rd : Nat → Nat → SV} (hl : h ≤ len) : cellsOf h sz rd = (cellsOf len sz rd).take (h * sz) := by
  unfold cellsOf
  rw [← List.map_take, List.take_range, Nat.min_eq_left (Nat.mul_le_mul_right _ hl)]
theorem row_cut {R : Nat → Prop} {B : Nat} {w : World} {a : Option Addr} {e len cap sz : Nat} {rd : Nat → Nat → SV} (hr : (Own.row a e len cap sz rd).ok R B w) {h : Nat} (hl : h ≤ len) : (Own.row a e h cap sz rd).ok R B w := by
  obtain ⟨⟨h1, h2⟩, h3, h4⟩ := hr
  refine ⟨⟨by simp [cellsOf], ?_⟩, h3, fun i j hi hj => h4 i j (by omega) hj⟩
  rcases h2 with ⟨hv, h0⟩ | ⟨g, cap', cur, hv, hbg, hg, hn, hcm, hcs, hc⟩
  · simp only [Value.slice.injEq] at hv
    obtain ⟨rfl, _, rfl⟩ := hv
    exact .inl ⟨by simp; omega, by omega⟩
  · simp only [Value.slice.injEq] at hv
    obtain ⟨rfl, _, rfl⟩ := hv
    refine .inr ⟨g, cap, cur, rfl, hbg, hg, by omega, hcm, hcs, ?_⟩
    rw [cellsOf_take hl, ← hc, List.take_take, Nat.min_eq_left (Nat.mul_le_mul_right _ hl)]

theorem sCut_good {t : TypeId} {x : Operand} {lo hi : Option Operand} (hd : dstOk st dst) (h : sCut P st dst t x lo hi k) : Good P F (.slice t x lo hi none) dst st k := by
  unfold sCut at h
  rintro R0 w0 a w o next Q ho rfl ⟨ob, R, hr⟩ hk
  split at h
  · rename_i e id ad len cap ht hx
    split at h
    · rename_i a1 e1 len1 cap1 sz rd hid
      split at h
      · rename_i l hh hl1 hh1
        obtain ⟨⟨rfl, rfl, rfl, hz, hz0⟩, ⟨rfl, h1, h2⟩, h⟩ := h
        subst hz
        have hrow := hr.own _ _ hid
        have hlc : len1 ≤ cap1 := by
          rcases hrow.1.2 with ⟨hv, h0⟩ | ⟨g, cap', cur, hv, _, _, hn, _⟩
          · simp only [Value.slice.injEq] at hv; omega
          · simp only [Value.slice.injEq] at hv; omega
        have hb := run_sliceBounds (P := P) (w := w) (isSlice := true) (eval_bound hr.env hl1) (eval_bound hr.env hh1) (Int.le_refl 0) h1 h2 hlc
        have hs := run_sizeOf hz0 w
        have hrun : (execOp a.eval o).run P w = .ok (.value (.slice a1 hh.toNat cap1)) w := by
          have hx' := (ev_ok hr.env hx).1
          simp only [SV.den] at hx'
          simp [execOp, ho, hx', Instr.sliceAt, Instr.slice, run_underlying (tk_slice ht), hb, hs]
          cases a1 with
          | none => simp
          | some v =>
            have hv : v.add 0 = v := by
              rcases hrow.1.2 with ⟨hv, _⟩ | ⟨g, cap', cur, hv, _⟩
              · cases hv
              · simp only [Value.slice.injEq, Option.some.injEq] at hv
                obtain ⟨rfl, _⟩ := hv
                rfl
            simp [hv]
        unfold Oper.wp
        rw [hrun]
        have hidl : id < st.own.length := (List.getElem?_eq_some_iff.1 hid).1
        have hcut := row_cut hrow (h := hh.toNat) (by omega)
        have hblk : (Own.row a1 e1 hh.toNat cap1 (tsz P e) rd).blk = (Own.row a1 e1 len1 cap1 (tsz P e) rd).blk := by cases a1 <;> rfl
        have hnew : RelR F R0 w0 ob R { st with own := st.own.set id (.row a1 e1 hh.toNat cap1 (tsz P e) rd) } a w := by
          refine ⟨hr.defers, hr.env, hr.size, ?_, ?_, hr.evo, hr.inv, hr.obM, ?_, hr.obw, hr.rr, hr.r0⟩
          · intro i x hx
            rw [List.getElem?_set] at hx
            split at hx
            · simp only [hidl, if_true, Option.some.injEq] at hx
              subst hx
              exact hcut
            · exact hr.own i x hx
          · intro i j x y hij hx hy b hb1 hb2
            rw [List.getElem?_set] at hx hy
            split at hx <;> split at hy
            · omega
            · rename_i e1 _
              subst e1
              simp only [hidl, if_true, Option.some.injEq] at hx
              subst hx
              exact hr.dist id j _ y hij hid hy b (hblk ▸ hb1) hb2
            · rename_i _ e1
              subst e1
              simp only [hidl, if_true, Option.some.injEq] at hy
              subst hy
              exact hr.dist i id x _ hij hx hid b hb1 (hblk ▸ hb2)
            · exact hr.dist i j x y hij hx hy b hb1 hb2
          · exact gb_set (m := w0.w.heap.size) (Nat.le_refl _) hr.gb hid fun b hb => .inl (hblk ▸ hb)
        exact hk _ _ _ h ⟨ob, R, hnew.put (s := .os id a1 hh.toNat cap1) (dstOk_of hd) trivial⟩
      · exact h.elim
    · exact h.elim
  · exact h.elim

/-- n zero elements are appended to nothing -/
def sZeros (P : Program) (st : St) (dst : Option Tmp) (t t' : TypeId) (x y : Operand) (k : St → Prop) : Prop :=
  match tk P t, tk P t', ev st.env x, ev st.env y with
  | .slice e, .int _, some (.sl none 0 0 _ _), some (.i _ m) => (0 < m ∧ m ≤ 9223372036854775807 ∧ m * (tby P e : Nat) ≤ 281474976710656) ∧ (0 < tsz P e ∧ (tz P e).length = tsz P e ∧ (tz P e).all oneS = true) ∧
    ∀ (a : Option Addr) (cap : Nat), k (St.put { st with own := st.own ++ [Own.row a e m.toNat cap (tsz P e) (fun _ j => (tz P e).getD j default)] } dst (.os st.own.length a m.toNat cap))
  | _, _, _, _ => False

theorem zero_cells {e : TypeId} {z : Value} (htz : (tz P e).length = tsz P e) (hz : 0 < tsz P e) (hzc : z.cells.toList = (tz P e).map SV.den) (n : Nat) : (Builtin.zeroCells z.cells n).toList = cellsOf n (tsz P e) (fun _ j => (tz P e).getD j default) := by
  have hzs : z.cells.size = tsz P e := by rw [← Array.length_toList, hzc, List.length_map, htz]
  unfold Builtin.zeroCells cellsOf
  simp only [Array.toList_map, Array.toList_range, hzs]
  apply List.map_congr_left
  intro q _
  have hm : q % tsz P e < tsz P e := Nat.mod_lt _ hz
  have hc : z.cells[q % tsz P e]? = (((tz P e).map SV.den)[q % tsz P e]?) := by rw [← hzc]; simp
  have hlt : q % tsz P e < (tz P e).length := by omega
  rw [getElem!_def, hc, List.getElem?_map, List.getElem?_eq_getElem hlt]
  simp [List.getD, hlt]

theorem tz_ok {e : TypeId} (R : Nat → Prop) (w : World) : ∀ s ∈ tz P e, s.ok R w := by
  intro s hs
  unfold tz at hs
  cases hi : (P.info? e).bind (·.zero) with
  | none => rw [hi] at hs; cases hs
  | some z =>
    rw [hi] at hs
    obtain ⟨x, _, rfl⟩ := List.mem_map.1 hs
    exact ok_svc _ _ _

theorem sZeros_good {t t' : TypeId} {x y : Operand} (hd : dstOk st dst) (h : sZeros P st dst t t' x y k) : Good P F (.call { callee := .builtin .append, args := #[x, y], argTypes := #[t, t'] }) dst st k := by
  unfold sZeros at h
  rintro R0 w0 a w o next Q ho rfl ⟨ob, R, hr⟩ hk
  split at h
  · rename_i e kn sz0 rd0 kk m ht ht' hx hy
    obtain ⟨⟨h0, h63, h48⟩, ⟨hz, htz, hone⟩, h⟩ := h
    obtain ⟨n, rfl⟩ := Int.eq_ofNat_of_zero_le (show 0 ≤ m by omega)
    have hne : tz P e ≠ [] := fun h => by rw [h] at htz; simp at htz; omega
    obtain ⟨i, z, hi, hiz, hzc⟩ := tz_info hne
    have hsi : i.size = tsz P e := by unfold tsz; simp [hi]
    have hbi : i.bytes = tby P e := by unfold tby; simp [hi]
    have hzs : z.cells.size = tsz P e := by rw [← Array.length_toList, hzc, List.length_map, htz]
    have hti : P.underlying t' = some (.int kn) := by unfold tk at ht'; split at ht' <;> simp_all
    have hrun := Lib.run_append_nil_zeros (P := P) w t t' o.type e i z kk kn (tk_slice ht) hti hi hiz n (by omega) (by omega) (by omega) (by rw [hbi]; omega)
    have hx' := (ev_ok hr.env hx).1
    have hy' := (ev_ok hr.env hy).1
    have hex : (execOp a.eval o).run P w = .ok (.value (.slice (some ⟨w.heap.size, 0, none⟩) n (grownCap w n 0 e))) (w.drew.alloc (.cells (Builtin.zeroCells z.cells n ++ Builtin.zeroCells z.cells (grownCap w n 0 e - n)) e)) := by
      unfold execOp
      rw [ho]
      simp only [SV.den] at hx' hy'
      simp only [resolve, invoke, builtin, Sem.run_bind, Sem.run_pure, Result.andThen_ok, List.map_toArray, List.map_cons, List.map_nil, hx', hy', hrun]
    unfold Oper.wp
    rw [hex]
    have hge := grownCap_ge w n 0 e
    have hcm : grownCap w n 0 e ≤ maxLen := grownCap_le_maxLen w n 0 e (by unfold maxLen; omega)
    have hold : ∀ b, b < w.heap.size → (w.drew.alloc (.cells (Builtin.zeroCells z.cells n ++ Builtin.zeroCells z.cells (grownCap w n 0 e - n)) e)).heap[b]? = w.heap[b]? := fun b hb => heap_alloc_old w.drew _ hb
    have hnew := hr.newRow (o := .row (some ⟨w.heap.size, 0, none⟩) e n (grownCap w n 0 e) (tsz P e) (fun _ j => (tz P e).getD j default)) (w' := w.drew.alloc (.cells (Builtin.zeroCells z.cells n ++ Builtin.zeroCells z.cells (grownCap w n 0 e - n)) e))
      ⟨rfl, rfl, rfl, by simp, fun b hb _ => hold b hb⟩ (fun b hb => by simpa [Own.blk] using hb.symm)
      ⟨⟨by simp [cellsOf], .inr ⟨w.heap.size, grownCap w n 0 e, _, rfl, hr.obw, heap_alloc_new w.drew _, hge, hcm, by
          rw [Array.size_append, size_zeroCells, size_zeroCells, hzs, ← Nat.add_mul]; congr 1; omega, by
          rw [Array.toList_append, zero_cells htz hz hzc n]
          have hl : (cellsOf n (tsz P e) (fun _ j => (tz P e).getD j default)).length = n * tsz P e := by simp [cellsOf]
          rw [← hl]
          exact List.take_left⟩⟩,
        fun g hg => by simp only [Option.some.injEq] at hg; subst hg; exact fun hc => by have := (hr.rr _ hc).1; simp at this,
        fun p q hp hq => by
          have hm : (tz P e).getD q default ∈ tz P e := getD_mem (by omega)
          exact ⟨one_den (List.all_eq_true.1 hone _ hm), tz_ok _ _ _ hm⟩⟩
    exact hk _ _ _ (h (some ⟨w.heap.size, 0, none⟩) (grownCap w n 0 e)) ⟨ob, R, hnew.put (s := .os st.own.length (some ⟨w.heap.size, 0, none⟩) n (grownCap w n 0 e)) (dstOk_of hd) trivial⟩
  · exact h.elim
end
end Eng
end Go.Proofs.Ytchpegjadoodnaa
