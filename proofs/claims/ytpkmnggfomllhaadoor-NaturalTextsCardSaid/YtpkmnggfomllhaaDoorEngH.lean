/- The evaluator, part H: slices of the call's own: literals and append. -/
import Derived.Test.YtpkmnggfomllhaaDoorEngG
set_option linter.unusedSimpArgs false
set_option linter.unusedVariables false
namespace Go.Proofs.YtpkmnggfomllhaaDoor
namespace Eng
section
variable {P : Program} {F : Frm} {st : St} {k : St → Prop} {dst : Option Tmp}
def rdL (l : List SV) (sz : Nat) : Nat → Nat → SV := fun i j => l.getD (i * sz + j) default
theorem cellsOf_rdL (l : List SV) (n sz : Nat) (h : l.length = n * sz) (hz : 0 < sz) : cellsOf n sz (rdL l sz) = l.map SV.den := by
  apply List.ext_getElem?
  intro q
  unfold cellsOf rdL
  rw [List.getElem?_map, List.getElem?_map]
  by_cases hq : q < n * sz
  · rw [List.getElem?_range hq]
    have e : q / sz * sz + q % sz = q := by rw [Nat.mul_comm]; exact Nat.div_add_mod q sz
    simp [e, List.getD, show q < l.length by omega]
  · rw [List.getElem?_eq_none (by simp; omega), List.getElem?_eq_none (by omega)]; rfl
theorem getD_mem {α : Type} {l : List α} {q : Nat} {d : α} (h : q < l.length) : l.getD q d ∈ l := by simp [List.getD, h]
def sBuildSlice (P : Program) (st : St) (dst : Option Tmp) (t : TypeId) (n : Nat) (parts : List (Nat × Operand)) (k : St → Prop) : Prop :=
  match tk P t with
  | .slice e => (0 < tsz P e ∧ tz P e ≠ [] ∧ n * tsz P e ≤ 16777216) ∧
    (match fillS (fun i => some (i * tsz P e, tsz P e)) ((List.range (n * tsz P e)).map fun q => (tz P e).getD (q % (tz P e).length) default) (parts.map fun p => (p.1, ev st.env p.2)) with
    | some l => l.all oneS = true ∧ l.length = n * tsz P e ∧ ∀ blk : Nat, k (St.put { st with own := st.own ++ [Own.row (some ⟨blk, 0, none⟩) e n n (tsz P e) (rdL l (tsz P e))] } dst (.os st.own.length (some ⟨blk, 0, none⟩) n n))
    | none => False)
  | _ => False
theorem sBuildSlice_good {t : TypeId} {n : Nat} {parts : Array (Nat × Operand)} (hd : dstOk st dst) (h : sBuildSlice P st dst t n parts.toList k) : Good P F (.buildSlice t n parts) dst st k := by
  unfold sBuildSlice at h
  split at h
  · rename_i e ht
    obtain ⟨⟨hz, htz, hlim⟩, h⟩ := h
    split at h
    · rename_i l hl
      obtain ⟨h1, hlen, h⟩ := h
      rintro R0 w0 a w o next Q ho rfl ⟨ob, R, hr⟩ hk
      obtain ⟨i, z, hi, hiz, hzc⟩ := tz_info htz
      obtain ⟨hsome, hall⟩ := fillS_some _ _ _ hl
      have hvals : (parts.map fun x => (x.1, a.eval x.2)).toList = (parts.toList.map fun p => (p.1, ev st.env p.2)).map fun p => (p.1, (p.2.getD default).den) := by
        rw [Array.toList_map, List.map_map]
        apply List.map_congr_left
        intro p hp
        have := hsome _ (List.mem_map.2 ⟨p, hp, rfl⟩)
        obtain ⟨s, hs⟩ := Option.isSome_iff_exists.1 this
        simp only [] at hs
        simp [hs, (ev_ok hr.env hs).1]
      have hfill := fill_ok _ _ _ _ hl hvals
      have hzc' : z.cells = ((tz P e).map SV.den).toArray := by apply Array.ext'; rw [hzc]
      have htl : 0 < (tz P e).length := List.length_pos_iff.2 htz
      have hzero : (Array.range (n * tsz P e)).map (fun q => z.cells[q % z.cells.size]!) = (((List.range (n * tsz P e)).map fun q => (tz P e).getD (q % (tz P e).length) default).map SV.den).toArray := by
        apply Array.ext'
        simp only [Array.toList_map, Array.toList_range, List.map_map]
        apply List.map_congr_left
        intro q _
        have hm : q % (tz P e).length < (tz P e).length := Nat.mod_lt _ htl
        rw [hzc']
        simp [getElem!_def, List.getD, hm]
      have hzr : (zeroValue e).run P w = .ok z w := by simp [zeroValue, typeInfo, hi, hiz]
      have hs := run_sizeOf hz w
      have hrow : (newRow e (l.map SV.den).toArray).run P w = .ok ⟨w.heap.size, 0, none⟩ (w.alloc (.cells (l.map SV.den).toArray e)) := by simp [newRow]
      have hb : (Instr.buildSlice t n (parts.map fun x => (x.1, a.eval x.2))).run P w = .ok (.slice (some ⟨w.heap.size, 0, none⟩) n n) (w.alloc (.cells (l.map SV.den).toArray e)) := by
        unfold Instr.buildSlice
        by_cases hne : n * tsz P e = 0
        · have hzero' : (Array.range (n * tsz P e)).map (fun q => (#[] : Array Value)[q % (#[] : Array Value).size]!) = (((List.range (n * tsz P e)).map fun q => (tz P e).getD (q % (tz P e).length) default).map SV.den).toArray := by simp [hne]
          simp only [Sem.run_bind, run_underlying (tk_slice ht), Result.andThen_ok, hs, if_neg (show ¬ n * tsz P e > 2 ^ 24 by omega), if_pos hne, Sem.run_pure, hzero', hfill, hrow]
        · simp only [Sem.run_bind, run_underlying (tk_slice ht), Result.andThen_ok, hs, if_neg (show ¬ n * tsz P e > 2 ^ 24 by omega), if_neg hne, Sem.run_pure, hzr, hzero, hfill, hrow]
      unfold Oper.wp
      have hrun : (execOp a.eval o).run P w = .ok (.value (.slice (some ⟨w.heap.size, 0, none⟩) n n)) (w.alloc (.cells (l.map SV.den).toArray e)) := by
        simp [execOp, ho, hb]
      rw [hrun]
      have hlok : ∀ c ∈ l, c.ok R w := hall (fun c => c.ok R w) (fun c hc => by
        obtain ⟨q, _, rfl⟩ := List.mem_map.1 hc
        have hm : q % (tz P e).length < (tz P e).length := Nat.mod_lt _ htl
        have hmem : (tz P e).getD (q % (tz P e).length) default ∈ tz P e := getD_mem hm
        unfold tz at hmem
        rw [hi] at hmem
        simp only [Option.bind_some, hiz] at hmem
        obtain ⟨x, _, hx⟩ := List.mem_map.1 hmem
        unfold tz
        rw [hi]
        simp only [Option.bind_some, hiz]
        rw [← hx]
        exact ok_svz _ _ _) (fun p hp s hs c hc => by
        obtain ⟨q, _, rfl⟩ := List.mem_map.1 hp
        exact flat_ok (ev_ok hr.env hs).2 c hc)
      have hsl : 0 < tsz P e := hz
      have hcap : n ≤ maxLen := by
        have : n ≤ n * tsz P e := Nat.le_mul_of_pos_right n hz
        unfold maxLen; omega
      have hnew := hr.fresh (o := .row (some ⟨w.heap.size, 0, none⟩) e n n (tsz P e) (rdL l (tsz P e))) (cells := (l.map SV.den).toArray) (e := e) (fun b hb => by simpa [Own.blk] using hb.symm)
        ⟨⟨by simp [cellsOf], .inr ⟨w.heap.size, n, _, rfl, hr.obw, heap_alloc_new w _, Nat.le_refl _, hcap, by simp [hlen], by rw [cellsOf_rdL l n _ hlen hz]; rw [List.take_of_length_le (by simp [hlen])]⟩⟩,
          fun g hg => by simp only [Option.some.injEq] at hg; subst hg; exact fun hc => by have := (hr.rr _ hc).1; simp at this,
          fun p q hp hq => by
            have hlt : p * tsz P e + q < l.length := by
              have := Nat.mul_le_mul_right (tsz P e) (show p + 1 ≤ n by omega)
              rw [Nat.add_mul] at this; omega
            have hm : rdL l (tsz P e) p q ∈ l := getD_mem hlt
            exact ⟨one_den (List.all_eq_true.1 h1 _ hm), SV.ok_mono (fun _ h => h) (fun b hb => heap_alloc_old w _ (hr.rr b hb).1) _ (hlok _ hm)⟩⟩
      exact hk _ _ _ (h w.heap.size) ⟨ob, R, hnew.put (s := .os st.own.length (some ⟨w.heap.size, 0, none⟩) n n) (dstOk_of hd) trivial⟩
    · exact h.elim
  · exact h.elim
/-! ### append -/
def asAny (own : List Own) (s : SV) : Option (Option Addr × Nat × Nat × Nat × (Nat → Nat → SV)) :=
  match s with
  | .os id a len cap => match own[id]? with
    | some (.row a' _ len' cap' sz rd) => if a' = a ∧ len' = len ∧ cap' = cap then some (a', len', cap', sz, rd) else none
    | _ => asRead own s
  | _ => asRead own s
theorem asAny_cells {R : Nat → Prop} {B : Nat} {w : World} {s : SV} {a : Option Addr} {len cap sz : Nat} {rd : Nat → Nat → SV} (h : asAny st.own s = some (a, len, cap, sz, rd)) (ho : OwnsOk R B st.own w) (hs : s.ok R w) :
    s.den = .slice a len cap ∧ (len = 0 ∨ ∃ blk off, a = some ⟨blk, off, none⟩ ∧ ∀ j u, (cellsOf len sz rd)[j]? = some u → w.cell? ((⟨blk, off, none⟩ : Addr).add j) = some u) ∧
      ∀ i j, i < len → j < sz → (rd i j).den.oneCell' = true ∧ (rd i j).ok R w := by
  have read : ∀ {s : SV}, asRead st.own s = some (a, len, cap, sz, rd) → s.ok R w → s.den = .slice a len cap ∧ (len = 0 ∨ ∃ blk off, a = some ⟨blk, off, none⟩ ∧ ∀ j u, (cellsOf len sz rd)[j]? = some u → w.cell? ((⟨blk, off, none⟩ : Addr).add j) = some u) ∧
      (len = 0 ∨ ∀ i j, i < len → j < sz → (rd i j).den.oneCell' = true ∧ (rd i j).ok R w) := by
    intro s h hs
    obtain ⟨hd, _, _, hok⟩ := asRead_ok h ho hs
    refine ⟨hd, ?_, ?_⟩
    · rcases hok with hok | ⟨blk, off, ha, hR, hc⟩
      · exact .inl hok
      · refine .inr ⟨blk, off, ha, fun j u hu => ?_⟩
        unfold cellsOf at hu
        rw [List.getElem?_map] at hu
        by_cases hj : j < len * sz
        · rw [List.getElem?_range hj] at hu
          simp only [Option.map_some, Option.some.injEq] at hu
          subst hu
          have hz : 0 < sz := by
            rcases Nat.eq_zero_or_pos sz with h0 | h0
            · subst h0; simp at hj
            · exact h0
          have := (hc (j / sz) (j % sz) ((Nat.div_lt_iff_lt_mul hz).2 hj) (Nat.mod_lt _ hz)).1
          rw [Addr.add_lit]
          rwa [Nat.add_assoc, show j / sz * sz + j % sz = j by rw [Nat.mul_comm]; exact Nat.div_add_mod j sz] at this
        · rw [List.getElem?_eq_none (by simp; omega)] at hu; cases hu
    · rcases hok with hok | ⟨blk, off, ha, hR, hc⟩
      · exact .inl hok
      · exact .inr fun i j hi hj => (hc i j hi hj).2
  have fin : ∀ {s : SV}, asRead st.own s = some (a, len, cap, sz, rd) → s.ok R w → _ := fun h hs => let ⟨x, y, z⟩ := read h hs; (⟨x, y, z.elim (fun h0 i j hi => absurd hi (by omega)) id⟩ : _ ∧ _ ∧ ∀ i j, i < len → j < sz → (rd i j).den.oneCell' = true ∧ (rd i j).ok R w)
  unfold asAny at h
  split at h
  · rename_i id a' len' cap'
    split at h
    · rename_i a2 e2 len2 cap2 sz2 rd2 ho2
      split at h
      · rename_i heq
        obtain ⟨rfl, rfl, rfl⟩ := heq
        simp only [Option.some.injEq, Prod.mk.injEq] at h
        obtain ⟨rfl, rfl, rfl, rfl, rfl⟩ := h
        have hrow := ho _ _ ho2
        refine ⟨rfl, ?_, hrow.2.2⟩
        rcases hrow.1.2 with ⟨_, h0⟩ | ⟨g, cap', cur, hv, _⟩
        · exact .inl h0
        · simp only [Value.slice.injEq] at hv
          obtain ⟨rfl, _, rfl⟩ := hv
          exact .inr ⟨g, 0, rfl, fun j u hu => hrow.1.cells (g := g) rfl j u hu⟩
      · cases h
    · exact fin h hs
  · exact fin h hs
def tby (P : Program) (t : TypeId) : Nat := ((P.info? t).map (·.bytes)).getD 0
def rdCat (len : Nat) (rd rd' : Nat → Nat → SV) : Nat → Nat → SV := fun i j => if i < len then rd i j else rd' (i - len) j
theorem cellsOf_cat (len m sz : Nat) (rd rd' : Nat → Nat → SV) : cellsOf (len + m) sz (rdCat len rd rd') = cellsOf len sz rd ++ cellsOf m sz rd' := by
  unfold cellsOf
  apply List.ext_getElem?
  intro q
  rw [List.getElem?_append, List.length_map, List.length_range]
  by_cases hq : q < len * sz
  · have hz : 0 < sz := by
      rcases Nat.eq_zero_or_pos sz with h0 | h0
      · subst h0; simp at hq
      · exact h0
    rw [if_pos hq, List.getElem?_map, List.getElem?_map, List.getElem?_range hq, List.getElem?_range (by rw [Nat.add_mul]; omega)]
    simp only [Option.map_some, rdCat, if_pos ((Nat.div_lt_iff_lt_mul hz).2 hq)]
  · rw [if_neg hq, List.getElem?_map, List.getElem?_map]
    by_cases hq2 : q < (len + m) * sz
    · have hz : 0 < sz := by
        rcases Nat.eq_zero_or_pos sz with h0 | h0
        · subst h0; simp at hq2
        · exact h0
      rw [List.getElem?_range hq2, List.getElem?_range (by rw [Nat.add_mul] at hq2; omega)]
      have hge : ¬ q / sz < len := fun h => hq ((Nat.div_lt_iff_lt_mul hz).1 h)
      obtain ⟨r, rfl⟩ : ∃ r, q = len * sz + r := ⟨q - len * sz, by omega⟩
      have e1 : (len * sz + r) / sz = len + r / sz := by rw [Nat.mul_comm, Nat.mul_add_div hz]
      have e2 : (len * sz + r) % sz = r % sz := by rw [Nat.mul_comm, Nat.mul_add_mod]
      rw [e1] at hge
      simp only [Option.map_some, rdCat, e1, e2, if_neg hge, Nat.add_sub_cancel_left]
    · rw [List.getElem?_eq_none (by simp; omega), List.getElem?_eq_none (by simp; rw [Nat.add_mul] at hq2; omega)]; rfl
def sAppend (P : Program) (st : St) (dst : Option Tmp) (t : TypeId) (x y : Operand) (k : St → Prop) : Prop :=
  match tk P t, ev st.env x, ev st.env y with
  | .slice e, some s, some s' => (match asAny st.own s' with
    | some (a', m, _, sz, rd') => (tsz P e = sz ∧ 0 < sz ∧ (tz P e).length = sz) ∧ (match s with
      | .sl none 0 0 _ _ => (m ≤ maxLen ∧ m * tby P e ≤ 140737488355328) ∧ ∀ (a : Option Addr) (cap : Nat), k (St.put { st with own := st.own ++ [Own.row a e m cap sz rd'] } dst (.os st.own.length a m cap))
      | .os id a len cap => (match st.own[id]? with
        | some (.row a1 e1 len1 cap1 sz1 rd) => (a1 = a ∧ len1 = len ∧ cap1 = cap ∧ e1 = e ∧ sz1 = sz) ∧ (len + m ≤ maxLen ∧ (len + m) * tby P e ≤ 140737488355328) ∧
          ∀ (a2 : Option Addr) (cap2 : Nat), k (St.put { st with own := st.own.set id (Own.row a2 e (len + m) cap2 sz (rdCat len rd rd')) } dst (.os id a2 (len + m) cap2))
        | _ => False)
      | _ => False)
    | none => False)
  | _, _, _ => False
theorem ownsRow_form {w : World} {B e sz n : Nat} {v : Value} {xs : List Value} (hown : w.ownsRow B e sz v n xs) : ∃ a cap, v = .slice a n cap ∧ v.ownBlock = a.map (·.block) ∧ ∀ g, a = some g → g.spot = none ∧ g.off = 0 := by
  rcases hown.2 with ⟨rfl, rfl⟩ | ⟨g, cap', cur, rfl, h⟩
  · exact ⟨none, 0, rfl, rfl, fun g h => by cases h⟩
  · exact ⟨some ⟨g, 0, none⟩, cap', rfl, rfl, fun g h => by simp only [Option.some.injEq] at h; subst h; exact ⟨rfl, rfl⟩⟩
theorem run_app {t e : TypeId} {x y : Operand} (ht : tk P t = .slice e) (hz : 0 < tsz P e) (htz : (tz P e).length = tsz P e) (w : World) {B : Nat} {v : Value} {n : Nat} {xs : List Value} (hown : w.ownsRow B e (tsz P e) v n xs)
    {blk off m c : Nat} {news : List Value} (hl : news.length = m * tsz P e) (hnews : ∀ j u, news[j]? = some u → w.cell? ((⟨blk, off, none⟩ : Addr).add j) = some u) (h1 : ∀ u ∈ news, u.oneCell' = true)
    (h63 : n + m ≤ maxLen) (hby : (n + m) * tby P e ≤ 140737488355328) (hB : B ≤ w.heap.size) (o : Oper) (ho : o.op = .call { callee := .builtin .append, args := #[x, y], argTypes := #[t, t] }) {a : Act} (hx : a.eval x = v) (hy : a.eval y = .slice (some ⟨blk, off, none⟩) m c) :
    ∃ v' w', (execOp a.eval o).run P w = .ok (.value v') w' ∧ w'.ownsRow B e (tsz P e) v' (n + m) (xs ++ news) ∧ w.grownBy w' v.ownBlock ∧ (v'.ownBlock = v.ownBlock ∨ v'.ownBlock = some w.heap.size) := by
  have hne : tz P e ≠ [] := fun h => by rw [h] at htz; simp at htz; omega
  obtain ⟨i, z, hi, hiz, hzc⟩ := tz_info hne
  have hsi : i.size = tsz P e := by unfold tsz; simp [hi]
  have hbi : i.bytes = tby P e := by unfold tby; simp [hi]
  have hzs : z.cells.size = tsz P e := by rw [← Array.length_toList, hzc, List.length_map, htz]
  obtain ⟨v', w', hr, h2, h3, _, h5⟩ := run_append_own_at (P := P) w B t o.type e i z (tsz P e) (tby P e) (tk_slice ht) hi hiz hsi hbi hzs hz v n xs hown ⟨blk, off, none⟩ m c news hl hnews h1 h63 hby hB
  refine ⟨v', w', ?_, h2, h3, h5⟩
  unfold execOp
  rw [ho]
  simp only [resolve, invoke, builtin, Sem.run_bind, Sem.run_pure, Result.andThen_ok, List.map_toArray, List.map_cons, List.map_nil, hx, hy, hr]
theorem cellsOf_one {len sz : Nat} {rd : Nat → Nat → SV} (h : ∀ i j, i < len → j < sz → (rd i j).den.oneCell' = true) : ∀ u ∈ cellsOf len sz rd, u.oneCell' = true := by
  intro u hu
  obtain ⟨q, hq, rfl⟩ := List.mem_map.1 hu
  have hq' : q < len * sz := by simpa using hq
  have hz : 0 < sz := by
    rcases Nat.eq_zero_or_pos sz with h0 | h0
    · subst h0; simp at hq'
    · exact h0
  exact h _ _ ((Nat.div_lt_iff_lt_mul hz).2 hq') (Nat.mod_lt _ hz)
theorem run_app_zero {t e : TypeId} {x y : Operand} (ht : tk P t = .slice e) (hz : 0 < tsz P e) (w : World) {B : Nat} {v : Value} {n : Nat} {xs : List Value} (hown : w.ownsRow B e (tsz P e) v n xs)
    {ad : Option Addr} {c : Nat} (o : Oper) (ho : o.op = .call { callee := .builtin .append, args := #[x, y], argTypes := #[t, t] }) {a : Act} (hx : a.eval x = v) (hy : a.eval y = .slice ad 0 c) :
    (execOp a.eval o).run P w = .ok (.value v) w := by
  have hs := run_sizeOf hz w
  have hf : (Builtin.firstCells (tsz P e) 0 (.slice ad 0 c)).run P w = .ok #[] w := by
    cases ad <;> simp [Builtin.firstCells, loadCells, loadCellsFrom]
  unfold execOp
  rw [ho]
  simp only [resolve, invoke, builtin, Sem.run_bind, Sem.run_pure, Result.andThen_ok, List.map_toArray, List.map_cons, List.map_nil, hx, hy]
  rcases hown.2 with ⟨rfl, rfl⟩ | ⟨g, cap', cur, rfl, _, _, hn, _⟩
  · simp [Builtin.append_, run_underlying (tk_slice ht), hs, Builtin.lenOf, hf]
  · simp [Builtin.append_, run_underlying (tk_slice ht), hs, Builtin.lenOf, hf, hn, storeCells]
variable {R0 R : Nat → Prop} {w0 : Org} {w : World} {ob : Nat} {a : Act}
theorem grown_sizes {w w' : World} {row : Option Nat} (h : w.grownBy w' row) : w.heap.size ≤ w'.heap.size := h.size
theorem RelR.newRow (h : RelR F R0 w0 ob R st a w) {o : Own} {w' : World} (hg : w.grownBy w' none) (hblk : ∀ b, o.blk = some b → b = w.heap.size) (ho : o.ok R ob w') :
    RelR F R0 w0 ob R { st with own := st.own ++ [o] } a w' := by
  have hold : ∀ b, b < w.heap.size → w'.heap[b]? = w.heap[b]? := fun b hb => hg.block b hb (by simp)
  refine h.turn (fun _ => False) hg.os hg.tape hg.output hg.size (fun _ h => h.elim) (fun b hb _ => hold b hb) (fun _ h => h) (fun _ h => .inl h) ?_ ?_ (gb_append h.evo.size h.gb hblk)
  · intro i x hx
    rcases get_append_one hx with hx | ⟨_, rfl⟩
    · exact Own.ok_keep (h.own i x hx) (fun _ h => h) (fun _ _ h => h) (fun b hr => hold b (h.rr b hr).1) (fun b hb => hold b (Own.blk_lt (h.own i x hx) hb).2.1)
    · exact ho
  · intro i j o1 o2 hij h1 h2 b hb1 hb2
    rcases get_append_one h1 with g1 | ⟨hi, rfl⟩ <;> rcases get_append_one h2 with g2 | ⟨hj, rfl⟩
    · exact h.dist i j o1 o2 hij g1 g2 b hb1 hb2
    · have := (Own.blk_lt (h.own i o1 g1) hb1).2.1
      have := hblk b hb2
      omega
    · have := (Own.blk_lt (h.own j o2 g2) hb2).2.1
      have := hblk b hb1
      omega
    · omega
theorem RelR.reRow (h : RelR F R0 w0 ob R st a w) {id : Nat} {o o' : Own} (hid : st.own[id]? = some o) {w' : World} {row : Option Nat} (hg : w.grownBy w' row) (hrow : ∀ b, row = some b → o.blk = some b)
    (hblk : ∀ b, o'.blk = some b → o.blk = some b ∨ b = w.heap.size) (ho : o'.ok R ob w') : RelR F R0 w0 ob R { st with own := st.own.set id o' } a w' := by
  have hidl : id < st.own.length := (List.getElem?_eq_some_iff.1 hid).1
  have hold : ∀ b, b < w.heap.size → o.blk ≠ some b → w'.heap[b]? = w.heap[b]? := fun b hb hne => hg.block b hb (fun e => hne (hrow b e.symm))
  have hgl : ∀ b, o.blk = some b → ob ≤ b ∧ b < w.heap.size ∧ ¬ R b := fun b hb => Own.blk_lt (h.own id o hid) hb
  refine h.turn (fun b => o.blk = some b) hg.os hg.tape hg.output hg.size (fun b e => ⟨(hgl b e).1, (hgl b e).2.2, h.gb id o hid b e⟩) (fun b hlt hne => hold b hlt hne) (fun _ h => h) (fun _ h => .inl h) ?_ ?_ (gb_set h.evo.size h.gb hid hblk)
  · intro i x hx
    rw [List.getElem?_set] at hx
    split at hx
    · rename_i e
      subst e
      simp only [hidl, if_true, Option.some.injEq] at hx
      subst hx
      exact ho
    · rename_i hne
      refine Own.ok_keep (h.own i x hx) (fun _ h => h) (fun _ _ h => h) (fun b hr => hold b (h.rr b hr).1 (fun e => (hgl b e).2.2 hr)) (fun b hbx => hold b (Own.blk_lt (h.own i x hx) hbx).2.1 (fun e => ?_))
      exact h.dist id i o x hne hid hx b e hbx
  · have hx : ∀ (i : Nat) (x : Own), id ≠ i → st.own[i]? = some x → ∀ b, o'.blk = some b → x.blk ≠ some b := by
      intro i x hne hx b hb hbx
      rcases hblk b hb with e | e
      · exact h.dist id i o x hne hid hx b e hbx
      · have := (Own.blk_lt (h.own i x hx) hbx).2.1
        omega
    intro i j o1 o2 hij h1 h2 b hb1 hb2
    rw [List.getElem?_set] at h1 h2
    split at h1 <;> split at h2
    · omega
    · rename_i e hne
      subst e
      simp only [hidl, if_true, Option.some.injEq] at h1
      subst h1
      exact hx j o2 hne h2 b hb1 hb2
    · rename_i hne e
      subst e
      simp only [hidl, if_true, Option.some.injEq] at h2
      subst h2
      exact hx i o1 hne h1 b hb2 hb1
    · exact h.dist i j o1 o2 hij h1 h2 b hb1 hb2
theorem grown_refl (w : World) (row : Option Nat) : w.grownBy w row := ⟨rfl, rfl, rfl, Nat.le_refl _, fun _ _ _ => rfl⟩
theorem sAppend_good {t : TypeId} {x y : Operand} (hd : dstOk st dst) (h : sAppend P st dst t x y k) : Good P F (.call { callee := .builtin .append, args := #[x, y], argTypes := #[t, t] }) dst st k := by
  unfold sAppend at h
  split at h
  · rename_i e s s' ht hx hy
    split at h
    · rename_i a' m c' sz rd' hany
      obtain ⟨⟨rfl, hz, htz⟩, h⟩ := h
      rintro R0 w0 a w o next Q ho rfl ⟨ob, R, hr⟩ hk
      obtain ⟨hden, hcells, hone⟩ := asAny_cells hany hr.own (ev_ok hr.env hy).2
      have hy' := (ev_ok hr.env hy).1
      rw [hden] at hy'
      have hx' := (ev_ok hr.env hx).1
      have hl : (cellsOf m (tsz P e) rd').length = m * tsz P e := by simp [cellsOf]
      have hRlt : ∀ b, R b → b < w.heap.size := fun b hb => (hr.rr b hb).1
      have hB := hr.obw
      have key : ∀ (v : Value) (len : Nat) (rd : Nat → Nat → SV), a.eval x = v → w.ownsRow ob e (tsz P e) v len (cellsOf len (tsz P e) rd) → (len + m ≤ maxLen ∧ (len + m) * tby P e ≤ 140737488355328) →
          ∃ a2 cap2 w', (execOp a.eval o).run P w = .ok (.value (.slice a2 (len + m) cap2)) w' ∧ w'.ownsRow ob e (tsz P e) (.slice a2 (len + m) cap2) (len + m) (cellsOf (len + m) (tsz P e) (rdCat len rd rd')) ∧
            w.grownBy w' v.ownBlock ∧ (∀ g, a2 = some g → v.ownBlock = some g.block ∨ g.block = w.heap.size) := by
        intro v len rd hv hown hlim
        rcases Nat.eq_zero_or_pos m with h0 | h0
        · subst h0
          obtain ⟨a2, cap2, rfl, hb2, _⟩ := ownsRow_form hown
          refine ⟨a2, cap2, w, run_app_zero ht hz w hown o ho hv hy', ?_, grown_refl _ _, fun g hg => ?_⟩
          · rw [cellsOf_cat]
            have : cellsOf 0 (tsz P e) rd' = [] := by simp [cellsOf]
            rw [this, List.append_nil]
            exact hown
          · left; rw [hb2, hg]; rfl
        · rcases hcells with hm | ⟨blk, off, rfl, hnews⟩
          · omega
          obtain ⟨v', w', hrun, hown', hg, hb⟩ := run_app ht hz htz w hown hl hnews (cellsOf_one fun i j hi hj => (hone i j hi hj).1) hlim.1 hlim.2 hB o ho hv hy'
          rw [← cellsOf_cat] at hown'
          obtain ⟨a2, cap2, rfl, hb2, _⟩ := ownsRow_form hown'
          refine ⟨a2, cap2, w', hrun, hown', hg, fun g hgg => ?_⟩
          rw [hb2, hgg] at hb
          simpa [eq_comm] using hb
      have cat_ok : ∀ (w' : World) (len : Nat) (rd : Nat → Nat → SV), (∀ b, R b → w'.heap[b]? = w.heap[b]?) → (∀ i j, i < len → j < tsz P e → (rd i j).den.oneCell' = true ∧ (rd i j).ok R w) →
          ∀ i j, i < len + m → j < tsz P e → (rdCat len rd rd' i j).den.oneCell' = true ∧ (rdCat len rd rd' i j).ok R w' := by
        intro w' len rd hw hrd i j hi hj
        unfold rdCat
        split
        · rename_i hlt; exact ⟨(hrd i j hlt hj).1, SV.ok_mono (fun _ h => h) hw _ (hrd i j hlt hj).2⟩
        · exact ⟨(hone _ j (by omega) hj).1, SV.ok_mono (fun _ h => h) hw _ (hone _ j (by omega) hj).2⟩
      unfold Oper.wp
      split at h
      · rename_i c2 rd2
        obtain ⟨hlim, h⟩ := h
        obtain ⟨a2, cap2, w', hrun, hown, hg, hb⟩ := key (.slice none 0 0) 0 rd2 hx' (by simpa [cellsOf] using World.ownsRow_nil w _ e (tsz P e)) (by simpa using hlim)
        rw [hrun]
        have hwR : ∀ b, R b → w'.heap[b]? = w.heap[b]? := fun b hb' => hg.block b (hRlt b hb') (by simp [Value.ownBlock])
        have hcat : rdCat 0 rd2 rd' = rd' := by funext i j; simp [rdCat]
        rw [Nat.zero_add, hcat] at hown
        have hnew := hr.newRow (o := .row a2 e m cap2 (tsz P e) rd') (w' := w') ⟨hg.os, hg.tape, hg.output, hg.size, fun b hb' _ => hg.block b hb' (by simp [Value.ownBlock])⟩
          (fun b hb' => by
            cases a2 with
            | none => cases hb'
            | some g =>
              simp only [Own.blk, Option.some.injEq] at hb'
              subst hb'
              rcases hb g rfl with h | h
              · simp [Value.ownBlock] at h
              · exact h)
          ⟨hown, fun g hgg => by
            subst hgg
            rcases hb g rfl with h | h
            · simp [Value.ownBlock] at h
            · exact fun hc => by have := hRlt _ hc; omega, fun i j hi hj => ⟨(hone i j hi hj).1, SV.ok_mono (fun _ h => h) hwR _ (hone i j hi hj).2⟩⟩
        rw [show 0 + m = m by omega]
        exact hk _ _ _ (h a2 cap2) ⟨ob, R, hnew.put (s := .os st.own.length a2 m cap2) (dstOk_of hd) trivial⟩
      · rename_i id ad len cap
        split at h
        · rename_i a1 e1 len1 cap1 sz1 rd hid
          obtain ⟨⟨rfl, rfl, rfl, rfl, rfl⟩, hlim, h⟩ := h
          have hrow := hr.own _ _ hid
          obtain ⟨a2, cap2, w', hrun, hown, hg, hb⟩ := key _ len1 rd hx' hrow.1 hlim
          rw [hrun]
          have hob : ∀ b, (SV.os id a1 len1 cap1).den.ownBlock = some b → (Own.row a1 e1 len1 cap1 (tsz P e1) rd).blk = some b := by
            intro b hb'
            cases a1 with
            | none => simp [SV.den, Value.ownBlock] at hb'
            | some g => simpa [SV.den, Value.ownBlock, Own.blk] using hb'
          have hwR : ∀ b, R b → w'.heap[b]? = w.heap[b]? := fun b hb' => hg.block b (hRlt b hb') (fun e' => (Own.blk_lt hrow (hob b e'.symm)).2.2 hb')
          have hnew := hr.reRow (o' := .row a2 e1 (len1 + m) cap2 (tsz P e1) (rdCat len1 rd rd')) hid hg hob (fun b hb' => by
            cases a2 with
            | none => cases hb'
            | some g =>
              simp only [Own.blk, Option.some.injEq] at hb'
              subst hb'
              rcases hb g rfl with h | h
              · exact .inl (hob _ h)
              · exact .inr h) ⟨hown, fun g hgg => by
            subst hgg
            rcases hb g rfl with h | h
            · exact (Own.blk_lt hrow (hob _ h)).2.2
            · exact fun hc => by have := hRlt _ hc; omega, cat_ok w' len1 rd hwR hrow.2.2⟩
          exact hk _ _ _ (h a2 cap2) ⟨ob, R, hnew.put (s := .os id a2 (len1 + m) cap2) (dstOk_of hd) trivial⟩
        · exact h.elim
      · exact h.elim
    · exact h.elim
  · exact h.elim
end
end Eng
end Go.Proofs.YtpkmnggfomllhaaDoor
