/- The evaluator, part G: operations that make or turn objects of the call's own. -/
import Derived.Test.YtpkmnggfomllhaaDoorEngF
import Derived.Maps.AppendAt
set_option linter.unusedSimpArgs false
set_option linter.unusedVariables false
namespace Go.Proofs.YtpkmnggfomllhaaDoor
namespace Eng
def Rel (F : Frm) (R0 : Nat → Prop) (w0 : Org) (st : St) (a : Act) (w : World) : Prop := ∃ ob R, RelR F R0 w0 ob R st a w
def Good (P : Program) (F : Frm) (op : Op) (dst : Option Tmp) (st : St) (k : St → Prop) : Prop :=
  ∀ (R0 : Nat → Prop) (w0 : Org) (a : Act) (w : World) (o : Oper) (next : Act → World → Prop) (Q : Exit → Act → World → Prop), o.op = op → o.dst = dst → Rel F R0 w0 st a w →
    (∀ st' a' w', k st' → Rel F R0 w0 st' a' w' → next a' w') → o.wp P a w next Q
def dstOk (st : St) (dst : Option Tmp) : Prop := match dst with | some d => d < st.n | none => True
theorem dstOk_of {st : St} {dst : Option Tmp} (h : dstOk st dst) : ∀ t, dst = some t → t < st.n := by rintro t rfl; exact h
section
variable {P : Program} {F : Frm} {st : St} {k : St → Prop} {dst : Option Tmp}
theorem Good.of_vok {op : Op} (hd : dstOk st dst) (h : Vok P st op (fun s => k (st.put dst s))) : Good P F op dst st k := by
  rintro R0 w0 a w o next Q ho rfl ⟨ob, R, hr⟩ hk
  obtain ⟨s, hs, hv⟩ := h
  obtain ⟨h1, h2, _⟩ := hv R _ a w hr.env hr.own
  unfold Oper.wp
  rw [h2 o ho]
  exact hk _ _ _ hs ⟨ob, R, hr.put (dstOk_of hd) h1⟩
def oneS : SV → Bool
  | .agg _ _ => false
  | .tup _ _ => false
  | .v (.agg _) => false
  | .v (.tuple _) => false
  | _ => true
theorem one_den {s : SV} (h : oneS s = true) : s.den.oneCell' = true := by
  cases s with
  | v x => cases x <;> simp_all [oneS, SV.den, Value.oneCell']
  | _ => simp_all [oneS, SV.den, Value.oneCell']
/-! ### A new variable -/
def sNew (st : St) (dst : Option Tmp) (t : TypeId) (cs : List SV) (k : St → Prop) : Prop :=
  ∀ blk : Nat, k (St.put { st with own := st.own ++ [Own.box blk t cs] } dst (.op st.own.length blk 0))
theorem good_new {op : Op} {t : TypeId} {cs : List SV} (hd : dstOk st dst) (h : sNew st dst t cs k)
    (hrun : ∀ R B a w, EnvOk R st.env a w → OwnsOk R B st.own w → (∀ c ∈ cs, c.den.oneCell' = true ∧ c.ok R w) ∧ ∀ o : Oper, o.op = op → (execOp a.eval o).run P w = .ok (.value (.pointer (some ⟨w.heap.size, 0, none⟩))) (w.alloc (.cells (cs.map SV.den).toArray t))) : Good P F op dst st k := by
  rintro R0 w0 a w o next Q ho rfl ⟨ob, R, hr⟩ hk
  obtain ⟨h1, h2⟩ := hrun R _ a w hr.env hr.own
  unfold Oper.wp
  rw [h2 o ho]
  have hf := hr.fresh (o := .box w.heap.size t cs) (cells := (cs.map SV.den).toArray) (e := t) (fun b hb => by simpa [Own.blk] using hb.symm) ⟨hr.obw, fun hc => by have := (hr.rr _ hc).1; omega, heap_alloc_new w _, fun c hc =>
    ⟨(h1 c hc).1, SV.ok_mono (fun _ h => h) (fun b hb => heap_alloc_old w _ (hr.rr b hb).1) c (h1 c hc).2⟩⟩
  exact hk _ _ _ (h w.heap.size) ⟨ob, R, hf.put (s := .op st.own.length w.heap.size 0) (dstOk_of hd) trivial⟩
def sAlloc (P : Program) (st : St) (dst : Option Tmp) (t : TypeId) (k : St → Prop) : Prop := (tz P t ≠ [] ∧ (tz P t).all oneS = true) ∧ sNew st dst t (tz P t) k
theorem sAlloc_good {t : TypeId} (hd : dstOk st dst) (h : sAlloc P st dst t k) : Good P F (.alloc t) dst st k := by
  obtain ⟨⟨hz, h1⟩, h⟩ := h
  refine good_new hd h fun R B a w he ho => ⟨fun c hc => ⟨one_den (List.all_eq_true.1 h1 c hc), ?_⟩, fun o ho' => ?_⟩
  · unfold tz at hc
    split at hc
    · obtain ⟨x, _, rfl⟩ := List.mem_map.1 hc; exact ok_svz _ _ _
    · simp at hc
  · obtain ⟨i, z, hi, hiz, hzc⟩ := tz_info hz
    have : z.cells = ((tz P t).map SV.den).toArray := by apply Array.ext'; rw [hzc]
    have hzr : (zeroValue t).run P w = .ok z w := by simp [zeroValue, typeInfo, hi, hiz]
    have hnew : (newVar t z).run P w = .ok ⟨w.heap.size, 0, none⟩ (w.alloc (.cells ((tz P t).map SV.den).toArray t)) := by
      rw [← this]; simp [newVar, newRow]
    simp [execOp, ho', Instr.alloc, hzr, hnew]
def sBox (st : St) (dst : Option Tmp) (t : TypeId) (x : Operand) (k : St → Prop) : Prop :=
  match ev st.env x with
  | some s => (flatOk s = true ∧ (flat s).all oneS = true) ∧ sNew st dst t (flat s) k
  | none => False
theorem sBox_good {t : TypeId} {x : Operand} (hd : dstOk st dst) (h : sBox st dst t x k) : Good P F (.box t x) dst st k := by
  unfold sBox at h
  split at h
  · rename_i s hx
    obtain ⟨⟨hf, h1⟩, h⟩ := h
    refine good_new hd h fun R B a w he ho => ⟨fun c hc => ⟨one_den (List.all_eq_true.1 h1 c hc), flat_ok (ev_ok he hx).2 c hc⟩, fun o ho' => ?_⟩
    have : s.den.cells = ((flat s).map SV.den).toArray := by apply Array.ext'; rw [den_flat' hf]
    have hnew : (newVar t s.den).run P w = .ok ⟨w.heap.size, 0, none⟩ (w.alloc (.cells ((flat s).map SV.den).toArray t)) := by
      rw [← this]; simp [newVar, newRow]
    simp [execOp, ho', Instr.box, hnew, (ev_ok he hx).1]
  · exact h.elim
/-! ### A store -/
theorem lay_one {l cs : List SV} {off : Nat} (h1 : ∀ c ∈ l, c.den.oneCell' = true) (h2 : ∀ c ∈ cs, c.den.oneCell' = true) : ∀ c ∈ lay l off cs, c.den.oneCell' = true := by
  intro c hc
  unfold lay at hc
  rcases List.mem_append.1 hc with hc | hc
  · rcases List.mem_append.1 hc with hc | hc
    · exact h1 c (List.mem_of_mem_take hc)
    · exact h2 c hc
  · exact h1 c (List.mem_of_mem_drop hc)
theorem lay_map (l : List SV) (off : Nat) (cs : List SV) : (lay l off cs).map SV.den = (l.map SV.den).take off ++ cs.map SV.den ++ (l.map SV.den).drop (off + (cs.map SV.den).length) := by simp [lay]
theorem lay_ok {R : Nat → Prop} {w : World} {l cs : List SV} {off : Nat} (h1 : ∀ c ∈ l, c.ok R w) (h2 : ∀ c ∈ cs, c.ok R w) : ∀ c ∈ lay l off cs, c.ok R w := by
  intro c hc
  unfold lay at hc
  rcases List.mem_append.1 hc with hc | hc
  · rcases List.mem_append.1 hc with hc | hc
    · exact h1 c (List.mem_of_mem_take hc)
    · exact h2 c hc
  · exact h1 c (List.mem_of_mem_drop hc)
theorem lay_get {α : Type} (l vs : List α) (off : Nat) (h : off + vs.length ≤ l.length) (q : Nat) : (l.take off ++ vs ++ l.drop (off + vs.length))[q]? = if q < off then l[q]? else if q < off + vs.length then vs[q - off]? else l[q]? := by
  have e : min off l.length = off := by omega
  simp only [List.getElem?_append, List.length_append, List.length_take, List.getElem?_take, List.getElem?_drop, e]
  by_cases h1 : q < off
  · simp [h1, show q < off + vs.length by omega]
  · by_cases h2 : q < off + vs.length
    · simp [h1, h2]
    · simp [h1, h2, show off + vs.length + (q - (off + vs.length)) = q by omega]
def rdSet (rd : Nat → Nat → SV) (ix j : Nat) (cs : List SV) : Nat → Nat → SV := fun p q => if p = ix ∧ j ≤ q ∧ q < j + cs.length then cs.getD (q - j) default else rd p q
def sStore (P : Program) (st : St) (dst : Option Tmp) (t : TypeId) (x y : Operand) (k : St → Prop) : Prop :=
  match ev st.env x, ev st.env y with
  | some (.op id blk off), some s => (match st.own[id]? with
    | some (.box blk' ty cs) => blk' = blk ∧ (flatOk s = true ∧ (flat s).all oneS = true ∧ (flat s).length = tsz P t ∧ 0 < tsz P t ∧ off + tsz P t ≤ cs.length) ∧
      k (St.put { st with own := st.own.set id (Own.box blk' ty (lay cs off (flat s))) } dst (.v undef))
    | _ => False)
  | some (.oe id blk off ix j), some s => (match st.own[id]? with
    | some (.row a e len cap sz rd) => ((a.getD default).block = blk ∧ ix * sz + j = off) ∧ ix < len ∧ (flatOk s = true ∧ (flat s).all oneS = true ∧ (flat s).length = tsz P t ∧ 0 < tsz P t ∧ j + tsz P t ≤ sz) ∧
      k (St.put { st with own := st.own.set id (Own.row a e len cap sz (rdSet rd ix j (flat s))) } dst (.v undef))
    | _ => False)
  | _, _ => False
theorem run_storeAt_own {t : TypeId} (hz : 0 < tsz P t) {g off : Nat} {cur : Array Value} {e : TypeId} {w : World} (hg : w.heap[g]? = some (.cells cur e (0, 0))) {s : SV} (hf : flatOk s = true) (h1 : (flat s).all oneS = true) (hl : (flat s).length = tsz P t) (hb : off + tsz P t ≤ cur.size) :
    (Instr.storeAt t (.pointer (some ⟨g, off, none⟩)) s.den).run P w = .ok () (w.setRow g (cur.toList.take off ++ (flat s).map SV.den ++ cur.toList.drop (off + (flat s).length)).toArray) := by
  have hs := run_sizeOf hz w
  have hsz : s.den.cells.size = tsz P t := by rw [← Array.length_toList, den_flat' hf, List.length_map, hl]
  have hst := run_storeCells_at P g off e ((flat s).map SV.den) 0 cur w hg (by simp; omega) (fun v hv => by
    obtain ⟨c, hc, rfl⟩ := List.mem_map.1 hv
    exact one_den (List.all_eq_true.1 h1 c hc))
  simp only [Nat.add_zero, List.length_map] at hst
  simp [Instr.storeAt, Instr.sureAddr, storeVar, hs, hsz, den_flat' hf, hst]
theorem row_store {R : Nat → Prop} {B : Nat} {w : World} {g e len cap sz : Nat} {rd : Nat → Nat → SV} (h : (Own.row (some ⟨g, 0, none⟩) e len cap sz rd).ok R B w) {ix j : Nat} {cs : List SV} (hix : ix < len) (hj : j + cs.length ≤ sz) (h0 : 0 < cs.length)
    (h1 : cs.all oneS = true) (hok : ∀ c ∈ cs, c.ok R w) (hRlt : ∀ b, R b → b < w.heap.size) : ∃ cur : Array Value, w.heap[g]? = some (.cells cur e (0, 0)) ∧ ix * sz + j + cs.length ≤ cur.size ∧
      (Own.row (some ⟨g, 0, none⟩) e len cap sz (rdSet rd ix j cs)).ok R B (w.setRow g (cur.toList.take (ix * sz + j) ++ cs.map SV.den ++ cur.toList.drop (ix * sz + j + cs.length)).toArray) := by
  obtain ⟨ho, hR, hc⟩ := h
  have hgR : ¬ R g := hR _ rfl
  rcases ho.2 with ⟨hv, _⟩ | ⟨g', cap', cur, hv, hbg, hg, hn, hcm, hcs, ht⟩
  · cases hv
  simp only [Value.slice.injEq, Option.some.injEq, Addr.mk.injEq, and_true, true_and] at hv
  obtain ⟨rfl, rfl⟩ := hv
  have hle : ix * sz + sz ≤ len * sz := by
    have := Nat.mul_le_mul_right sz (show ix + 1 ≤ len by omega)
    rw [Nat.add_mul] at this; omega
  have hle2 : len * sz ≤ cap * sz := Nat.mul_le_mul_right sz hn
  refine ⟨cur, hg, by omega, ⟨⟨by simp [cellsOf], .inr ⟨g, cap, _, rfl, hbg, setRow_heap w g cur _ e _ hg, hn, hcm, ?_, ?_⟩⟩, hR, ?_⟩⟩
  · simp; omega
  · have hlen : (cellsOf len sz rd).length = len * sz := by simp [cellsOf]
    apply List.ext_getElem?
    intro q
    rw [List.getElem?_take]
    by_cases hq : q < len * sz
    · rw [if_pos hq]
      have hsz : 0 < sz := by omega
      have hq1 : q / sz < len := (Nat.div_lt_iff_lt_mul hsz).2 hq
      have hq2 : q % sz < sz := Nat.mod_lt _ hsz
      have hqe : q = (q / sz) * sz + q % sz := by rw [Nat.mul_comm]; exact (Nat.div_add_mod q sz).symm
      have hrhs : (cellsOf len sz (rdSet rd ix j cs))[q]? = some (rdSet rd ix j cs (q / sz) (q % sz)).den := by
        have := cellsOf_get (rd := rdSet rd ix j cs) hq1 hq2
        rwa [← hqe] at this
      have hold : cur.toList[q]? = some (rd (q / sz) (q % sz)).den := by
        have := cellsOf_get (rd := rd) hq1 hq2
        rw [← hqe, ← ht, List.getElem?_take, if_pos hq] at this
        exact this
      rw [hrhs, show ix * sz + j + cs.length = ix * sz + j + (cs.map SV.den).length by simp, lay_get _ _ _ (by simp; omega)]
      simp only [List.length_map]
      by_cases hix2 : q / sz = ix
      · rw [hix2] at hqe hold
        have hqe' : q - ix * sz = q % sz := by omega
        by_cases ha : j ≤ q % sz ∧ q % sz < j + cs.length
        · have hr : rdSet rd ix j cs (q / sz) (q % sz) = cs.getD (q % sz - j) default := if_pos ⟨hix2, ha⟩
          rw [hr, if_neg (by omega), if_pos (by omega), show q - (ix * sz + j) = q % sz - j by omega]
          have hlt : q % sz - j < cs.length := by omega
          simp [List.getD, hlt]
        · have hr : rdSet rd ix j cs (q / sz) (q % sz) = rd (q / sz) (q % sz) := if_neg (fun h => ha h.2)
          rw [hr, hix2]
          by_cases hb : q < ix * sz + j
          · rw [if_pos hb, hold]
          · rw [if_neg hb, if_neg (by omega), hold]
      · have hr : rdSet rd ix j cs (q / sz) (q % sz) = rd (q / sz) (q % sz) := if_neg (fun h => hix2 h.1)
        rw [hr]
        by_cases hb : q < ix * sz + j
        · rw [if_pos hb, hold]
        · have : ¬ q < ix * sz + j + cs.length := by
            intro hlt
            apply hix2
            have : ix * sz ≤ q ∧ q < (ix + 1) * sz := by rw [Nat.add_mul]; omega
            rw [Nat.div_eq_of_lt_le this.1 this.2]
          rw [if_neg hb, if_neg this, hold]
    · rw [if_neg hq, List.getElem?_eq_none]
      rw [show (cellsOf len sz (rdSet rd ix j cs)).length = len * sz by simp [cellsOf]]
      omega
  · have hmono : ∀ s : SV, s.ok R w → s.ok R (w.setRow g (cur.toList.take (ix * sz + j) ++ cs.map SV.den ++ cur.toList.drop (ix * sz + j + cs.length)).toArray) := SV.ok_mono (fun _ h => h) (fun b hb => setRow_other w g b _ (fun e => by subst e; exact hgR hb))
    intro p q hp hq
    unfold rdSet
    split
    · rename_i hpq
      have hget : cs[q - j]? = some (cs.getD (q - j) default) := by simp [List.getD, show q - j < cs.length by omega]
      have hm := List.mem_of_getElem? hget
      exact ⟨one_den (List.all_eq_true.1 h1 _ hm), hmono _ (hok _ hm)⟩
    · exact ⟨(hc p q hp hq).1, hmono _ (hc p q hp hq).2⟩
theorem sStore_good {t : TypeId} {x y : Operand} (hd : dstOk st dst) (h : sStore P st dst t x y k) : Good P F (.store t x y) dst st k := by
  unfold sStore at h
  rintro R0 w0 a w o next Q ho rfl ⟨ob, R, hr⟩ hk
  split at h
  · rename_i id blk off s hx hy
    split at h
    · rename_i blk' ty cs hid
      obtain ⟨rfl, ⟨hf, h1, hl, hz, hb⟩, h⟩ := h
      obtain ⟨hB, hnR, hg, hcs⟩ := hr.own _ _ hid
      have hst := run_storeAt_own hz hg hf h1 hl (off := off) (by simpa using hb)
      have hcells : ((cs.map SV.den).toArray.toList.take off ++ (flat s).map SV.den ++ (cs.map SV.den).toArray.toList.drop (off + (flat s).length)) = (lay cs off (flat s)).map SV.den := by rw [lay_map]; simp
      rw [hcells] at hst
      unfold Oper.wp
      have hrun : (execOp a.eval o).run P w = .ok .skip (w.setRow blk' ((lay cs off (flat s)).map SV.den).toArray) := by
        simp only [execOp, ho, (ev_ok hr.env hx).1, (ev_ok hr.env hy).1, Sem.run_bind]
        simp only [SV.den] at hst ⊢
        rw [hst]; rfl
      rw [hrun]
      have hmono : ∀ s : SV, s.ok R w → s.ok R (w.setRow blk' ((lay cs off (flat s)).map SV.den).toArray) := fun s' => SV.ok_mono (fun _ h => h) (fun b hb => setRow_other w blk' b _ (fun e => by subst e; exact hnR hb)) s'
      have hnew := hr.setOwn (o' := .box blk' ty (lay cs off (flat s))) (g := blk') hid rfl (fun b hb => by simpa [Own.blk] using hb.symm) (w' := w.setRow blk' ((lay cs off (flat s)).map SV.den).toArray) rfl rfl rfl (by simp [World.setRow]) (fun b _ hne => setRow_other w blk' b _ hne)
        ⟨hB, hnR, setRow_heap w blk' _ _ ty _ hg, fun c hc => ⟨lay_one (fun c hc => (hcs c hc).1) (fun c hc => one_den (List.all_eq_true.1 h1 c hc)) c hc, SV.ok_mono (fun _ h => h) (fun b hb => setRow_other w blk' b _ (fun e => by subst e; exact hnR hb)) c (lay_ok (fun c hc => (hcs c hc).2) (flat_ok (ev_ok hr.env hy).2) c hc)⟩⟩
      exact hk _ _ _ h ⟨ob, R, hnew.put (s := .v undef) (dstOk_of hd) trivial⟩
    · exact h.elim
  · rename_i id blk off ix j s hx hy
    split at h
    · rename_i ad e len cap sz rd hid
      obtain ⟨⟨hb, rfl⟩, hix, ⟨hf, h1, hl, hz, hj⟩, h⟩ := h
      obtain ⟨g, rfl, _⟩ := row_cell (hr.own _ _ hid) hix (show j < sz by omega)
      simp only [Option.getD_some] at hb
      subst hb
      obtain ⟨cur, hg, hcur, hrow⟩ := row_store (hr.own _ _ hid) hix (show j + (flat s).length ≤ sz by omega) (by omega) h1 (flat_ok (ev_ok hr.env hy).2) (fun b hb => (hr.rr b hb).1)
      have hst := run_storeAt_own hz hg hf h1 hl (off := ix * sz + j) (by omega)
      unfold Oper.wp
      have hrun : (execOp a.eval o).run P w = .ok .skip (w.setRow g (cur.toList.take (ix * sz + j) ++ (flat s).map SV.den ++ cur.toList.drop (ix * sz + j + (flat s).length)).toArray) := by
        simp only [execOp, ho, (ev_ok hr.env hx).1, (ev_ok hr.env hy).1, Sem.run_bind]
        simp only [SV.den] at hst ⊢
        rw [hst]; rfl
      rw [hrun]
      have hnew := hr.setOwn (o' := .row (some ⟨g, 0, none⟩) e len cap sz (rdSet rd ix j (flat s))) (g := g) hid rfl (fun b hb => by simpa [Own.blk] using hb.symm) (w' := w.setRow g (cur.toList.take (ix * sz + j) ++ (flat s).map SV.den ++ cur.toList.drop (ix * sz + j + (flat s).length)).toArray) rfl rfl rfl (by simp [World.setRow]) (fun b _ hne => setRow_other w g b _ hne) hrow
      exact hk _ _ _ h ⟨ob, R, hnew.put (s := .v undef) (dstOk_of hd) trivial⟩
    · exact h.elim
  · exact h.elim
end
end Eng
end Go.Proofs.YtpkmnggfomllhaaDoor
