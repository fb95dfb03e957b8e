/- The evaluator: copy between two windows of one row of the call's own. -/
import Derived.Test.YtpkmnggfomllhaaDoorEngCut
import Derived.Laws.CopyRow
import Derived.Laws.IdiomCopy
set_option linter.unusedSimpArgs false
set_option linter.unusedVariables false
namespace Go.Proofs.YtpkmnggfomllhaaDoor
namespace Eng
def rdOff (k : Nat) (rd : Nat → Nat → SV) : Nat → Nat → SV := fun i j => rd (k + i) j
def rdMove (a b n : Nat) (rd : Nat → Nat → SV) : Nat → Nat → SV := rdCat a rd (rdCat n (rdOff b rd) (rdOff (a + n) rd))
theorem rdMove_same (a n : Nat) (rd : Nat → Nat → SV) (i j : Nat) : rdMove a a n rd i j = rd i j := by
  unfold rdMove rdCat rdOff
  split
  · rfl
  · split
    · congr 1; omega
    · congr 1; omega
theorem rdMove_zero (a b : Nat) (rd : Nat → Nat → SV) (i j : Nat) : rdMove a b 0 rd i j = rd i j := by
  unfold rdMove rdCat rdOff
  split
  · rfl
  · rw [if_neg (by omega)]; congr 1; omega
def sCopy (P : Program) (st : St) (dst : Option Tmp) (t : TypeId) (x y : Operand) (k : St → Prop) : Prop :=
  match tk P t, ev st.env x, ev st.env y with
  | .slice e, some (.ow id a sz0 off len cap), some (.ow id2 a2 sz2 off2 len2 cap2) => (match st.own[id]? with
    | some (.row a1 e1 len1 cap1 sz rd) => (id2 = id ∧ a1 = a ∧ a2 = a ∧ sz0 = sz ∧ sz2 = sz ∧ len1 = off + len ∧ cap1 = off + cap ∧ len1 = off2 + len2 ∧ cap1 = off2 + cap2 ∧ tsz P e = sz ∧ 0 < sz) ∧
      k (St.put { st with own := st.own.set id (.row a1 e1 len1 cap1 sz (rdMove off off2 (min len2 len) rd)) } dst (.i .i64 (min len2 len : Nat)))
    | _ => False)
  | _, _, _ => False
section
variable {P : Program} {F : Frm} {st : St} {k : St → Prop} {dst : Option Tmp}
theorem cellsOf_move {a b n m sz : Nat} {rd : Nat → Nat → SV} : cellsOf (a + (n + m)) sz (rdMove a b n rd) = cellsOf a sz rd ++ (cellsOf n sz (rdOff b rd) ++ cellsOf m sz (rdOff (a + n) rd)) := by
  unfold rdMove
  rw [cellsOf_cat, cellsOf_cat]
theorem cellsOf_split {a n m sz : Nat} {rd : Nat → Nat → SV} : cellsOf (a + (n + m)) sz rd = cellsOf a sz rd ++ (cellsOf n sz (rdOff a rd) ++ cellsOf m sz (rdOff (a + n) rd)) := by
  rw [← cellsOf_move (b := a)]
  exact cellsOf_eq' fun i j _ _ => (rdMove_same a n rd i j).symm
theorem len_cellsOf (n sz : Nat) (rd : Nat → Nat → SV) : (cellsOf n sz rd).length = n * sz := by simp [cellsOf]
theorem row_move {R : Nat → Prop} {B : Nat} {w : World} {g e a b n m cap sz : Nat} {rd : Nat → Nat → SV} (h : (Own.row (some ⟨g, 0, none⟩) e (a + (n + m)) cap sz rd).ok R B w) (hb : b + n ≤ a + (n + m)) :
    ∃ cur : Array Value, w.heap[g]? = some (.cells cur e (0, 0)) ∧ a * sz + (cellsOf n sz (rdOff b rd)).length ≤ cur.size ∧
      (Own.row (some ⟨g, 0, none⟩) e (a + (n + m)) cap sz (rdMove a b n rd)).ok R B (w.setRow g (cur.toList.take (a * sz) ++ cellsOf n sz (rdOff b rd) ++ cur.toList.drop (a * sz + (cellsOf n sz (rdOff b rd)).length)).toArray) := by
  obtain ⟨ho, hR, hc⟩ := h
  have hgR : ¬ R g := hR _ rfl
  rcases ho.2 with ⟨hv, _⟩ | ⟨g', cap', cur, hv, hbg, hg, hn, hcm, hcs, ht⟩
  · cases hv
  simp only [Value.slice.injEq, Option.some.injEq, Addr.mk.injEq, and_true, true_and] at hv
  obtain ⟨rfl, rfl⟩ := hv
  have hlen := len_cellsOf n sz (rdOff b rd)
  have hle2 : (a + (n + m)) * sz ≤ cap * sz := Nat.mul_le_mul_right sz hn
  have hmul : (a + (n + m)) * sz = a * sz + (n * sz + m * sz) := by rw [Nat.add_mul, Nat.add_mul]
  have hle : a * sz + n * sz ≤ cur.size := by omega
  have hmono : ∀ s : SV, s.ok R w → s.ok R (w.setRow g (cur.toList.take (a * sz) ++ cellsOf n sz (rdOff b rd) ++ cur.toList.drop (a * sz + (cellsOf n sz (rdOff b rd)).length)).toArray) := SV.ok_mono (fun _ h => h) (fun b hb => setRow_other w g b _ (fun e => by subst e; exact hgR hb))
  have hcur : cur.toList = (cellsOf a sz rd ++ (cellsOf n sz (rdOff a rd) ++ cellsOf m sz (rdOff (a + n) rd))) ++ cur.toList.drop ((a + (n + m)) * sz) := by
    rw [← cellsOf_split, ← ht, List.take_append_drop]
  refine ⟨cur, hg, by rw [hlen]; exact hle, ⟨⟨by simp [cellsOf], .inr ⟨g, cap, _, rfl, hbg, setRow_heap w g cur _ e _ hg, hn, hcm, ?_, ?_⟩⟩, hR, ?_⟩⟩
  · simp [hlen]; omega
  · rw [cellsOf_move]
    have e1 : cur.toList.take (a * sz) = cellsOf a sz rd := by
      rw [hcur, List.append_assoc, ← len_cellsOf a sz rd, List.take_left]
    have e2 : cur.toList.drop (a * sz + (cellsOf n sz (rdOff b rd)).length) = cellsOf m sz (rdOff (a + n) rd) ++ cur.toList.drop ((a + (n + m)) * sz) := by
      rw [hlen]
      have e3 : a * sz + n * sz = (cellsOf a sz rd ++ cellsOf n sz (rdOff a rd)).length := by rw [List.length_append, len_cellsOf, len_cellsOf]
      have e4 : cur.toList = (cellsOf a sz rd ++ cellsOf n sz (rdOff a rd)) ++ (cellsOf m sz (rdOff (a + n) rd) ++ cur.toList.drop ((a + (n + m)) * sz)) := hcur.trans (by simp only [List.append_assoc])
      have e5 := congrArg (List.drop (a * sz + n * sz)) e4
      rw [e5, e3, List.drop_left]
    rw [e1, e2]
    have e6 : (cellsOf a sz rd ++ cellsOf n sz (rdOff b rd) ++ (cellsOf m sz (rdOff (a + n) rd) ++ cur.toList.drop ((a + (n + m)) * sz))) = (cellsOf a sz rd ++ (cellsOf n sz (rdOff b rd) ++ cellsOf m sz (rdOff (a + n) rd))) ++ cur.toList.drop ((a + (n + m)) * sz) := by simp only [List.append_assoc]
    simp only
    rw [e6]
    have e7 : (a + (n + m)) * sz = (cellsOf a sz rd ++ (cellsOf n sz (rdOff b rd) ++ cellsOf m sz (rdOff (a + n) rd))).length := by
      rw [List.length_append, List.length_append, len_cellsOf, len_cellsOf, len_cellsOf, hmul]
    conv => lhs; arg 1; rw [e7]
    exact List.take_left
  · intro p q hp hq
    unfold rdMove rdCat rdOff
    split
    · exact ⟨(hc p q (by omega) hq).1, hmono _ (hc p q (by omega) hq).2⟩
    · split
      · exact ⟨(hc _ q (by omega) hq).1, hmono _ (hc _ q (by omega) hq).2⟩
      · exact ⟨(hc _ q (by omega) hq).1, hmono _ (hc _ q (by omega) hq).2⟩
theorem sCopy_good {t t' : TypeId} {x y : Operand} (hd : dstOk st dst) (h : sCopy P st dst t x y k) : Good P F (.call { callee := .builtin .copy, args := #[x, y], argTypes := #[t, t'] }) dst st k := by
  unfold sCopy at h
  rintro R0 w0 a w o next Q ho rfl ⟨ob, R, hr⟩ hk
  split at h
  · rename_i e id ad sz0 off len cap id2 ad2 sz2 off2 len2 cap2 ht hx hy
    split at h
    · rename_i a1 e1 len1 cap1 sz rd hid
      obtain ⟨⟨rfl, rfl, rfl, rfl, rfl, hl1, hc1, hl2, hc2, hsz, hz⟩, h⟩ := h
      subst hsz
      have hrow := hr.own _ _ hid
      have hx' := (ev_ok hr.env hx).1
      have hy' := (ev_ok hr.env hy).1
      have hs := run_sizeOf (P := P) hz w
      have run : ∀ v w', (Builtin.copy_ #[t, t'] o.type #[(SV.ow id2 ad2 (tsz P e) off len cap).den, (SV.ow id2 ad2 (tsz P e) off2 len2 cap2).den]).run P w = .ok v w' → (execOp a.eval o).run P w = .ok (.value v) w' := by
        intro v w' hrun
        unfold execOp
        rw [ho]
        simp only [resolve, invoke, builtin, Sem.run_bind, Sem.run_pure, Result.andThen_ok, List.map_toArray, List.map_cons, List.map_nil, hx', hy', hrun]
      have hload0 : ∀ (v : Addr), (loadCells v 0).run P w = .ok #[] w := fun v => by simpa using run_loadCells_list (P := P) w v [] (by simp)
      by_cases h0 : min len2 len = 0
      · have hmin : Nat.min len2 len = 0 := h0
        have hex := run (goInt 0) w (by
          simp only [SV.den]
          cases ad2 with
          | none => by_cases g1 : cap = 0 <;> by_cases g2 : cap2 = 0 <;> simp [Builtin.copy_, run_underlying (tk_slice ht), Builtin.lenOf, Builtin.firstCells, hs, hmin, storeCells, hload0, g1, g2]
          | some v => by_cases g1 : cap = 0 <;> by_cases g2 : cap2 = 0 <;> simp [Builtin.copy_, run_underlying (tk_slice ht), Builtin.lenOf, Builtin.firstCells, hs, hmin, storeCells, hload0, g1, g2])
        unfold Oper.wp
        rw [hex]
        rw [h0] at h
        have hrd0 : rdEq' len1 (tsz P e) rd (rdMove off off2 0 rd) := fun p q _ _ => (rdMove_zero off off2 rd p q).symm
        exact hk _ _ _ h ⟨ob, R, (hr.rerd hid hrd0).put (s := .i .i64 ((0 : Nat) : Int)) (dstOk_of hd) trivial⟩
      · obtain ⟨n, hn⟩ : ∃ n, n = min len2 len := ⟨_, rfl⟩
        have hmin : Nat.min len2 len = n := hn.symm
        rw [← hn] at h h0
        obtain ⟨m, hm⟩ : ∃ m, len1 = off + (n + m) := ⟨len1 - off - n, by omega⟩
        obtain ⟨g, rfl, _⟩ := row_cell hrow (i := off) (j := 0) (by omega) hz
        subst hm
        obtain ⟨cur, hg, hcur, hrow'⟩ := row_move (b := off2) hrow (by omega)
        have hcell : ∀ j v, (cellsOf n (tsz P e) (rdOff off2 rd))[j]? = some v → w.cell? ((⟨g, off2 * tsz P e, none⟩ : Addr).add j) = some v := by
          intro j v hj
          have hjl : j < n * tsz P e := by
            have := (List.getElem?_eq_some_iff.1 hj).1
            rwa [len_cellsOf] at this
          have hd1 : j / tsz P e < n := (Nat.div_lt_iff_lt_mul hz).2 hjl
          obtain ⟨g', hg', hc⟩ := row_cell hrow (i := off2 + j / tsz P e) (j := j % tsz P e) (by omega) (Nat.mod_lt _ hz)
          simp only [Option.some.injEq, Addr.mk.injEq, and_true, true_and] at hg'
          subst hg'
          have e1 : (off2 + j / tsz P e) * tsz P e + j % tsz P e = off2 * tsz P e + j := by
            rw [Nat.add_mul, Nat.add_assoc]
            congr 1
            rw [Nat.mul_comm]
            exact Nat.div_add_mod j (tsz P e)
          rw [Addr.add_lit]
          rw [e1] at hc
          rw [hc]
          unfold cellsOf at hj
          rw [List.getElem?_map, List.getElem?_range hjl] at hj
          simpa [rdOff] using hj
        have hone : ∀ u ∈ cellsOf n (tsz P e) (rdOff off2 rd), u.oneCell' = true := cellsOf_one fun i j hi hj => (hrow.2.2 (off2 + i) j (by omega) hj).1
        have hload := run_loadCells_list (P := P) w ⟨g, off2 * tsz P e, none⟩ _ hcell
        rw [len_cellsOf] at hload
        have hst := run_storeCells_at P g (off * tsz P e) e1 (cellsOf n (tsz P e) (rdOff off2 rd)) 0 cur w hg (by omega) hone
        simp only [Nat.add_zero] at hst
        have hcapn : cap ≠ 0 := by
          rcases hrow.1.2 with ⟨hv, _⟩ | ⟨g', cap', cur', hv, _, _, hnn, _⟩
          · cases hv
          · simp only [Value.slice.injEq] at hv
            omega
        have hcapn2 : cap2 ≠ 0 := by
          rcases hrow.1.2 with ⟨hv, _⟩ | ⟨g', cap', cur', hv, _, _, hnn, _⟩
          · cases hv
          · simp only [Value.slice.injEq] at hv
            omega
        have hex := run (goInt n) (w.setRow g (cur.toList.take (off * tsz P e) ++ cellsOf n (tsz P e) (rdOff off2 rd) ++ cur.toList.drop (off * tsz P e + (cellsOf n (tsz P e) (rdOff off2 rd)).length)).toArray) (by
          simp only [SV.den, if_neg hcapn, if_neg hcapn2, Option.map_some, Addr.add_lit, Nat.zero_add]
          simp only [Builtin.copy_, List.getElem?_toArray, List.getElem?_cons_zero, List.getElem?_cons_succ, Sem.run_bind, run_underlying (tk_slice ht), Result.andThen_ok, Builtin.lenOf, Builtin.firstCells, hs, hmin, Sem.run_pure, hload, hst])
        unfold Oper.wp
        rw [hex]
        have hnew := hr.setOwn (o' := .row (some ⟨g, 0, none⟩) e1 (off + (n + m)) cap1 (tsz P e) (rdMove off off2 n rd)) (g := g) hid rfl (fun b hb => by simpa [Own.blk] using hb.symm) (w' := w.setRow g (cur.toList.take (off * tsz P e) ++ cellsOf n (tsz P e) (rdOff off2 rd) ++ cur.toList.drop (off * tsz P e + (cellsOf n (tsz P e) (rdOff off2 rd)).length)).toArray) rfl rfl rfl (by simp [World.setRow]) (fun b _ hne => setRow_other w g b _ hne) hrow'
        exact hk _ _ _ h ⟨ob, R, hnew.put (s := .i .i64 (n : Nat)) (dstOk_of hd) trivial⟩
    · exact h.elim
  · exact h.elim
end
end Eng
end Go.Proofs.YtpkmnggfomllhaaDoor
