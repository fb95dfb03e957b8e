/- strings.Builder: copyCheck, WriteString, WriteByte, String: a variable and a row of bytes of the caller's own. -/
import Derived.Test.YtepkbbmjbbnhnaaGreatDoorPk4
import Derived.Test.YtepkbbmjbbnhnaaGreatDoorEv
import Derived.Test.YtepkbbmjbbnhnaaGreatDoorShelf
import Derived.Lib.Builder
import Derived.Lib.AppendStr
set_option linter.unusedSimpArgs false
set_option linter.unusedVariables false
namespace Go.Proofs.YtepkbbmjbbnhnaaGreatDoor
open Go.RowKit Eng
set_option maxHeartbeats 1000000 in
set_option maxRecDepth 100000 in
theorem cchk_used (b : Nat) (w : World) (h0 : w.cell? ⟨b, 0, none⟩ = some (.pointer (some ⟨b, 0, none⟩))) :
    Calls Tryz.prog 78 #[.pointer (some ⟨b, 0, none⟩)] w fun e w' => e = .returned (.tuple #[]) ∧ w' = w := by
  obtain ⟨j, hj, _⟩ : ∃ j, Tryz.prog.info? 89 = some j ∧ j.size = 2 := ⟨_, rfl, rfl⟩
  go_enter Tryz.func78, Tryz.ntmps78
  go_wp2
  rw [Lib.run_neq_ptr_same w _ (te := 89) (by kernel_rfl) hj]
  go_wp2
  go_end0
  exact ⟨rfl, rfl⟩
set_option maxHeartbeats 1000000 in
set_option maxRecDepth 100000 in
theorem cchk_fresh (b : Nat) (w : World) (h0 : w.cell? ⟨b, 0, none⟩ = some (.pointer none)) (hsh : w.shape? b = some (89, 2)) (hfz : w.frozen? ⟨b, 0, none⟩ = false) :
    Calls Tryz.prog 78 #[.pointer (some ⟨b, 0, none⟩)] w fun e w' => e = .returned (.tuple #[]) ∧ w' = w.setCell ⟨b, 0, none⟩ (.pointer (some ⟨b, 0, none⟩)) := by
  obtain ⟨j, hj, hjs⟩ : ∃ j, Tryz.prog.info? 89 = some j ∧ j.size = 2 := ⟨_, rfl, rfl⟩
  go_enter Tryz.func78, Tryz.ntmps78
  go_wp2
  rw [Lib.run_to_unsafe w ⟨b, 0, none⟩ (t := 89) (by kernel_rfl) (by kernel_rfl) hj (by rw [hjs]; decide) hsh (Nat.zero_lt_succ 1)]
  simp only [Result.andThen]
  rw [Oper.upon_value]
  go_wp2
  rw [run_callFunc_extern Tryz.func98 (by kernel_rfl) (by kernel_rfl) (by kernel_rfl) (e := Extern.AbiNoEscape.same) (by kernel_rfl)]
  rw [Lib.run_noEscape]
  simp only [Result.andThen]
  rw [Oper.upon_value]
  go_wp2
  rw [Lib.run_from_unsafe w ⟨b, 0, none⟩ (u := 89) (by kernel_rfl) (by kernel_rfl) hj hsh (by kernel_rfl)]
  simp only [Result.andThen]
  rw [Oper.upon_value]
  go_wp2
  go_end0
  exact ⟨rfl, rfl⟩
def selfS (p : SV) (b : Nat) : Prop := p.den = .pointer none ∨ p.den = .pointer (some ⟨b, 0, none⟩)
theorem cchkC (F : Frm) (b : Nat) (p s : SV) (hp : selfS p b) :
    ContractM F Tryz.prog 78 [.op 0 b 0] (.box b 89 [p, s]) (fun r o1 => r = .tup 0 (fun _ => default) ∧ o1 = .box b 89 [.v (.pointer (some ⟨b, 0, none⟩)), s]) := by
  have hf : Tryz.prog.funcs[78]? = some Tryz.f78 := Tryz.func78
  refine ⟨fun vs w => ?_, fun R w ob hinv hobM hobw ho0 hargs hR => ?_⟩
  · have hn : ¬ Tryz.f78.name = "runtime.NumGoroutine" := by
      have : (Tryz.f78.name == "runtime.NumGoroutine") = false := by kernel_rfl
      simpa using this
    obtain ⟨c, hb⟩ : ∃ c, Tryz.f78.body = some c := ⟨_, rfl⟩
    simp [callFunc, hf, hn, hb]
  · obtain ⟨hB, hnR, hg, hcs⟩ := ho0
    have hgl : b < w.heap.size := (Array.getElem?_eq_some_iff.1 hg).1
    have hargs' : ([SV.op 0 b 0].map SV.den).toArray = #[.pointer (some ⟨b, 0, none⟩)] := rfl
    rw [hargs']
    rcases hp with hp | hp
    · have h0 : w.cell? ⟨b, 0, none⟩ = some (.pointer none) := by simp [World.cell?, hg, hp]
      refine (cchk_fresh b w h0 (by simp [World.shape?, hg]) (by simp [World.frozen?, hg])).mono ?_
      rintro e w' ⟨rfl, rfl⟩
      have hset : (w.setCell ⟨b, 0, none⟩ (.pointer (some ⟨b, 0, none⟩))).heap[b]? = some (.cells (([.v (.pointer (some ⟨b, 0, none⟩)), s] : List SV).map SV.den).toArray 89 (0, 0)) := by
        rw [setCell_eq_setRow w b 0 _ _ _ _ hg, setRow_heap w b _ _ _ _ hg]
        simp [SV.den]
      have hoth : ∀ k, k ≠ b → (w.setCell ⟨b, 0, none⟩ (.pointer (some ⟨b, 0, none⟩))).heap[k]? = w.heap[k]? := fun k hk => by
        rw [setCell_eq_setRow w b 0 _ _ _ _ hg]
        exact setRow_other w b k _ hk
      have hsz : (w.setCell ⟨b, 0, none⟩ (.pointer (some ⟨b, 0, none⟩))).heap.size = w.heap.size := by rw [setCell_eq_setRow w b 0 _ _ _ _ hg]; simp [World.setRow]
      refine ⟨.tup 0 (fun _ => default), _, R, rfl, ⟨rfl, rfl⟩, fun _ h => h, fun _ h => .inl h, fun j hj => absurd hj (Nat.not_lt_zero _), fun c hc => hc, ⟨hB, hnR, hset, ?_⟩, ⟨?_, ?_, ?_, Nat.le_of_eq hsz.symm, fun k hk hm => hoth k (fun e => hm (.inr (by rw [e]; rfl)))⟩, ?_⟩
      · intro c hc
        rcases List.mem_cons.1 hc with rfl | hc
        · exact ⟨rfl, trivial⟩
        · have := hcs c (List.mem_cons_of_mem _ hc)
          exact ⟨this.1, SV.ok_mono (fun _ h => h) (fun k hk => hoth k (fun e => hnR (e ▸ hk))) c this.2⟩
      · rw [setCell_eq_setRow w b 0 _ _ _ _ hg]; rfl
      · rw [setCell_eq_setRow w b 0 _ _ _ _ hg]; rfl
      · rw [setCell_eq_setRow w b 0 _ _ _ _ hg]; rfl
      · exact F.stab w _ ob hinv hobM fun k hk => hoth k (by omega)
    · have h0 : w.cell? ⟨b, 0, none⟩ = some (.pointer (some ⟨b, 0, none⟩)) := by simp [World.cell?, hg, hp]
      refine (cchk_used b w h0).mono ?_
      rintro e w' ⟨rfl, rfl⟩
      refine ⟨.tup 0 (fun _ => default), _, R, rfl, ⟨rfl, rfl⟩, fun _ h => h, fun _ h => .inl h, fun j hj => absurd hj (Nat.not_lt_zero _), fun c hc => hc, ⟨hB, hnR, ?_, ?_⟩, Evo.refl _ _, hinv⟩
      · rw [hg]
        simp [SV.den, hp]
      · intro c hc
        rcases List.mem_cons.1 hc with rfl | hc
        · exact ⟨rfl, trivial⟩
        · exact hcs c (List.mem_cons_of_mem _ hc)
namespace Eng
theorem lfA_getD (own : List Own) (l : List SV) (j : Nat) : lfA own (l.getD j default) = (l.map (lfA own)).getD j default := by
  simp only [List.getD, List.getElem?_map]
  cases l[j]? <;> rfl
theorem resL_nil (own : List Own) : resL own [] = tupL [] := rfl
theorem resL_one (own : List Own) (x : SV) : resL own [x] = lfA own x := rfl
theorem resL_two (own : List Own) (x y : SV) : resL own [x, y] = tupL [lfA own x, lfA own y] := by
  simp only [resL, tupL, lfA_getD]; rfl
theorem renI_tupL (f : Nat → Nat) (l : List SV) : renI f (tupL l) = tupL (l.map (renI f)) := by
  simp only [renI, tupL, List.length_map]
  congr 1
  funext j
  simp only [List.getD, List.getElem?_map]
  cases l[j]? <;> rfl
def bytesRd (l : List UInt8) : Nat → Nat → SV := fun i _ => .i .u8 ((l.getD i 0).toNat : Nat)
section
variable {P : Program} {F : Frm} {st : St} {k : St → Prop} {dst : Option Tmp}
theorem strCells_eq (s : ByteArray) : Lib.strCells s = cellsOf s.size 1 (bytesRd s.data.toList) := by
  apply List.ext_getElem
  · rw [Lib.strCells_length, len_cellsOf, Nat.mul_one]
  · intro i h1 h2
    have hi : i < s.data.toList.length := by
      rw [Lib.strCells_length] at h1
      rw [Array.length_toList]
      exact h1
    simp only [Lib.strCells, cellsOf, List.getElem_map, List.getElem_range, Nat.div_one, Nat.mod_one, bytesRd, SV.den, List.getD, List.getElem?_eq_getElem hi, Option.getD_some]
theorem str_append {t t' e : TypeId} {x y : Operand} {id len cap : Nat} {a : Option Addr} {rd : Nat → Nat → SV} {s : ByteArray} (hd : dstOk st dst) (ht : tk P t = .slice e) (ht' : tk P t' = .str) (hI : ∃ i, P.info? e = some i ∧ i.zero = some (.int .u8 0) ∧ i.size = 1 ∧ i.bytes = 1)
    (hx : ev st.env x = some (.os id a len cap)) (hy : ev st.env y = some (.v (.string s))) (hid : st.own[id]? = some (.row a e len cap 1 rd)) (hs0 : 0 < s.size) (hmx : len + s.size ≤ 1000000000)
    (hk : ∀ a2 cap2, k (St.put { st with own := st.own.set id (.row a2 e (len + s.size) cap2 1 (rdCat len rd (bytesRd s.data.toList))) } dst (.os id a2 (len + s.size) cap2))) : Good P F (.call { callee := .builtin .append, args := #[x, y], argTypes := #[t, t'] }) dst st k := by
  rintro R0 w0 ac w o next Q ho rfl ⟨ob, R, hr⟩ hn
  have hrow := hr.own _ _ hid
  have hx' := (ev_ok hr.env hx).1
  have hy' := (ev_ok hr.env hy).1
  simp only [SV.den] at hx' hy'
  obtain ⟨i, hi, hzero, hsi, hbi⟩ := hI
  have ex : ∀ v w', (Builtin.append_ #[t, t'] o.type #[.slice a len cap, .string s]).run P w = .ok v w' → (execOp ac.eval o).run P w = .ok (.value v) w' := by
    intro v w' hrun
    unfold execOp
    rw [ho]
    simp only [resolve, invoke, builtin, Sem.run_bind, Sem.run_pure, Result.andThen_ok, List.map_toArray, List.map_cons, List.map_nil, hx', hy', hrun]
  have hbytes : ∀ p q, p < s.size → q < 1 → (bytesRd s.data.toList p q).den.oneCell' = true ∧ ∀ w, (bytesRd s.data.toList p q).ok R w := fun p q _ _ => ⟨rfl, fun _ => trivial⟩
  have okcat : ∀ w' : World, (∀ b, R b → w'.heap[b]? = w.heap[b]?) → ∀ p q, p < len + s.size → q < 1 → (rdCat len rd (bytesRd s.data.toList) p q).den.oneCell' = true ∧ (rdCat len rd (bytesRd s.data.toList) p q).ok R w' := fun w' hw p q hp hq => by
    unfold rdCat
    split
    · exact ⟨(hrow.2.2 p q (by omega) hq).1, SV.ok_mono (fun _ h => h) hw _ (hrow.2.2 p q (by omega) hq).2⟩
    · exact ⟨(hbytes (p - len) q (by omega) hq).1, (hbytes (p - len) q (by omega) hq).2 w'⟩
  have hcl := len_cellsOf len 1 rd
  have hscl := Lib.strCells_length s
  rcases hrow.1.2 with ⟨hv, h0⟩ | ⟨g, cap', cur, hv, hbg, hg, hnc, hcm, hcs, htk⟩
  · simp only [Value.slice.injEq] at hv
    obtain ⟨rfl, rfl, rfl⟩ := hv
    have hrun := run_append_nil_string (P := P) (w := w) t t' o.type e i (.int .u8 0) (tk_slice ht) (tk_str ht') hi hzero s hs0 (by omega) (by rw [hbi]; omega)
    unfold Oper.wp
    rw [ex _ _ hrun]
    have hge := grownCap_ge w s.size 0 e
    have hcm : grownCap w s.size 0 e ≤ maxLen := grownCap_le_maxLen w s.size 0 e (by unfold maxLen; omega)
    have hold : ∀ b, b < w.heap.size → (w.drew.alloc (.cells (s.data.map (fun b => Value.int .u8 b.toNat) ++ Builtin.zeroCells (Value.int .u8 0).cells (grownCap w s.size 0 e - s.size)) e)).heap[b]? = w.heap[b]? := fun b hb => heap_alloc_old w.drew _ hb
    have hzl : (Value.int .u8 0).cells.size = 1 := rfl
    have hds : s.data.size = s.size := rfl
    have hnew := hr.reRow (o' := .row (some ⟨w.heap.size, 0, none⟩) e (0 + s.size) (grownCap w s.size 0 e) 1 (rdCat 0 rd (bytesRd s.data.toList))) (w' := w.drew.alloc (.cells (s.data.map (fun b => Value.int .u8 b.toNat) ++ Builtin.zeroCells (Value.int .u8 0).cells (grownCap w s.size 0 e - s.size)) e)) (row := none) hid
      ⟨rfl, rfl, rfl, by simp, fun b hb _ => hold b hb⟩ (fun b hb => by cases hb) (fun b hb => .inr (by simpa [Own.blk] using hb.symm))
      ⟨⟨by simp [cellsOf], .inr ⟨w.heap.size, grownCap w s.size 0 e, _, by rw [Nat.zero_add], hr.obw, heap_alloc_new w.drew _, by omega, hcm, by
          rw [Array.size_append, Array.size_map, size_zeroCells, hzl, hds]; omega, by
          rw [Array.toList_append, Array.toList_map, cellsOf_cat]
          have h9 : (s.data.toList.map fun b => Value.int .u8 b.toNat) = cellsOf s.size 1 (bytesRd s.data.toList) := strCells_eq s
          rw [h9]
          have e0 : cellsOf 0 1 rd = [] := rfl
          rw [e0, List.nil_append, Nat.zero_add, ← len_cellsOf s.size 1 (bytesRd s.data.toList)]
          exact List.take_left⟩⟩,
        fun g hg => by simp only [Option.some.injEq] at hg; subst hg; exact fun hc => by have := (hr.rr _ hc).1; simp at this,
        okcat _ (fun b hb => hold b (hr.rr b hb).1)⟩
    have := hnew.put (d := o.dst) (s := .os id (some ⟨w.heap.size, 0, none⟩) (0 + s.size) (grownCap w s.size 0 e)) (dstOk_of hd) trivial
    simp only [SV.den, Nat.zero_add] at this
    have hk' := hk (some ⟨w.heap.size, 0, none⟩) (grownCap w s.size 0 e)
    simp only [Nat.zero_add] at hk'
    exact hn _ _ _ hk' ⟨ob, R, this⟩
  · simp only [Value.slice.injEq] at hv
    obtain ⟨rfl, _, rfl⟩ := hv
    have hgR : ¬ R g := hrow.2.1 _ rfl
    by_cases hroom : len + s.size ≤ cap
    · have hrun := Lib.run_append_room_string (P := P) (w := w) t t' o.type e i (tk_slice ht) (tk_str ht') hi hsi g len cap cur hg s hroom (by omega)
      unfold Oper.wp
      rw [ex _ _ hrun]
      have hgr : w.grownBy (w.setRow g (cur.toList.take len ++ Lib.strCells s ++ cur.toList.drop (len + s.size)).toArray) (some g) := ⟨rfl, rfl, rfl, by simp [World.setRow], fun b _ hne => setRow_other w g b _ (fun e => hne (by simp [e]))⟩
      have hnew := hr.reRow (o' := .row (some ⟨g, 0, none⟩) e (len + s.size) cap 1 (rdCat len rd (bytesRd s.data.toList))) hid hgr (fun b hb => by simpa [Own.blk] using hb) (fun b hb => .inl hb)
        ⟨⟨by simp [cellsOf], .inr ⟨g, cap, _, rfl, hbg, setRow_heap w g cur _ e _ hg, hroom, hcm, by
            simp only [List.size_toArray, List.length_append, List.length_take, List.length_drop, Array.length_toList, hscl]; omega, by
            rw [cellsOf_cat, ← strCells_eq]
            have h8 : cur.toList.take len = cellsOf len 1 rd := by rw [Nat.mul_one] at htk; exact htk
            simp only
            rw [h8]
            have h7 : (len + s.size) * 1 = (cellsOf len 1 rd ++ Lib.strCells s).length := by rw [List.length_append, hcl, hscl]; omega
            rw [h7]
            exact List.take_left⟩⟩, hrow.2.1, okcat _ (fun b hb => setRow_other w g b _ (fun e => hgR (e ▸ hb)))⟩
      exact hn _ _ _ (hk _ _) ⟨ob, R, hnew.put (s := .os id (some ⟨g, 0, none⟩) (len + s.size) cap) (dstOk_of hd) trivial⟩
    · have holds : ∀ j v, (cellsOf len 1 rd)[j]? = some v → w.cell? ((⟨g, 0, none⟩ : Addr).add j) = some v := hrow.1.cells (g := g) rfl
      have hrun := Lib.run_append_grow_string (P := P) (w := w) t t' o.type e i (.int .u8 0) (tk_slice ht) (tk_str ht') hi hzero ⟨g, 0, none⟩ len cap (cellsOf len 1 rd) (by rw [hcl, hsi]) holds s (by omega) (by omega) (growslice_fits (bytes := i.bytes) (by omega) (by rw [hbi]; omega))
      unfold Oper.wp
      rw [ex _ _ hrun]
      have hge := grownCap_ge w (len + s.size) cap e
      have hcm2 : grownCap w (len + s.size) cap e ≤ maxLen := grownCap_le_maxLen w (len + s.size) cap e (by unfold maxLen; omega)
      have hold : ∀ b, b < w.heap.size → (w.drew.alloc (.cells ((cellsOf len 1 rd).toArray ++ (Lib.strCells s).toArray ++ Builtin.zeroCells (Value.int .u8 0).cells (grownCap w (len + s.size) cap e - (len + s.size))) e)).heap[b]? = w.heap[b]? := fun b hb => heap_alloc_old w.drew _ hb
      have hzl : (Value.int .u8 0).cells.size = 1 := rfl
      have hnew := hr.reRow (o' := .row (some ⟨w.heap.size, 0, none⟩) e (len + s.size) (grownCap w (len + s.size) cap e) 1 (rdCat len rd (bytesRd s.data.toList))) (w' := w.drew.alloc (.cells ((cellsOf len 1 rd).toArray ++ (Lib.strCells s).toArray ++ Builtin.zeroCells (Value.int .u8 0).cells (grownCap w (len + s.size) cap e - (len + s.size))) e)) (row := none) hid
        ⟨rfl, rfl, rfl, by simp, fun b hb _ => hold b hb⟩ (fun b hb => by cases hb) (fun b hb => .inr (by simpa [Own.blk] using hb.symm))
        ⟨⟨by simp [cellsOf], .inr ⟨w.heap.size, grownCap w (len + s.size) cap e, _, rfl, hr.obw, heap_alloc_new w.drew _, hge, hcm2, by
            rw [Array.size_append, Array.size_append, size_zeroCells, hzl, List.size_toArray, List.size_toArray, hcl, hscl]; omega, by
            rw [Array.toList_append, Array.toList_append, cellsOf_cat, ← strCells_eq]
            have h7 : (len + s.size) * 1 = (cellsOf len 1 rd ++ Lib.strCells s).length := by rw [List.length_append, hcl, hscl]; omega
            rw [h7]
            exact List.take_left⟩⟩,
          fun g hg => by simp only [Option.some.injEq] at hg; subst hg; exact fun hc => by have := (hr.rr _ hc).1; simp at this,
          okcat _ (fun b hb => hold b (hr.rr b hb).1)⟩
      exact hn _ _ _ (hk _ _) ⟨ob, R, hnew.put (s := .os id (some ⟨w.heap.size, 0, none⟩) (len + s.size) (grownCap w (len + s.size) cap e)) (dstOk_of hd) trivial⟩
end
end Eng
abbrev selfBox (b : Nat) (p : SV) (a : Option Addr) (n cap : Nat) : Own := .box b 89 [p, .os 1 a n cap]
abbrev byRow (a : Option Addr) (n cap : Nat) (rd : Nat → Nat → SV) : Own := .row a 5 n cap 1 rd
set_option maxRecDepth 100000 in
theorem writeStrC (F : Frm) (b : Nat) (p : SV) (hp : selfS p b) (a : Option Addr) (n cap : Nat) (rd : Nat → Nat → SV) (s : ByteArray) (hs0 : 0 < s.size) (hmx : n + s.size ≤ 1000000000) :
    ContractL F Tryz.prog 52 [.op 0 b 0, .v (.string s)] [selfBox b p a n cap, byRow a n cap rd]
      (fun r os => r = tupL [.i .i64 s.size, .v .nilIface] ∧ ∃ a2 c2, os = [selfBox b (.v (.pointer (some ⟨b, 0, none⟩))) a2 (n + s.size) c2, byRow a2 (n + s.size) c2 (rdCat n rd (bytesRd s.data.toList))]) := by
  refine contractL_of Tryz.func52 rfl (by kernel_rfl) ?_
  simp only [Tryz.ntmps52, argEnv]
  (repeat refine Sat.seq ?_)
  (refine Sat.region_k fun k hk => ?_; simp -implicitDefEqProofs only [evr, id, seval, selfBox]; refine hk _ ?_; clear hk k; try show Sat _ _ _ _ _)
  (repeat refine Sat.seq ?_)
  (refine Sat.region_k fun k hk => ?_; simp -implicitDefEqProofs only [evr, id, seval, selfBox])
  refine wcall_mut 0 (cchkC F b p (.os 1 a n cap) hp) rfl (by simp -implicitDefEqProofs only [evr, id, seval, selfBox]) ?_
  rintro r o1 ⟨rfl, rfl⟩
  simp -implicitDefEqProofs only [evr, id, seval, selfBox]
  (refine hk _ ?_; clear hk k; try show Sat _ _ _ _ _)
  (repeat refine Sat.seq ?_)
  (refine Sat.region_k fun k hk => ?_; simp -implicitDefEqProofs only [evr, id, seval, selfBox])
  refine str_append (e := 5) (len := n) (cap := cap) (a := a) (rd := rd) (s := s) (show (14 : Nat) < 19 by decide) (by simp -implicitDefEqProofs only [evr, id, seval, selfBox]) (by simp -implicitDefEqProofs only [evr, id, seval, selfBox]) ⟨_, rfl, rfl, rfl, rfl⟩ rfl rfl rfl hs0 hmx fun a2 c2 => ?_
  simp -implicitDefEqProofs only [evr, id, seval, selfBox]
  (refine hk _ ?_; clear hk k; try show Sat _ _ _ _ _)
  (repeat refine Sat.seq ?_)
  (refine Sat.region_k fun k hk => ?_; simp -implicitDefEqProofs only [evr, id, seval, selfBox]; refine hk _ ?_; clear hk k; try show Sat _ _ _ _ _)
  refine Sat.ret ?_
  simp only [Tryz.results52, evr, id, seval, selfBox, retL, retLK, resL_two, lfA, lf]
  exact ⟨_, [], (List.append_nil _).symm, by simp, rfl, _, _, rfl⟩
theorem bytes_cat (l s : List UInt8) : rdCat l.length (bytesRd l) (bytesRd s) = bytesRd (l ++ s) := by
  funext i j
  unfold rdCat bytesRd
  by_cases h : i < l.length
  · rw [if_pos h]; simp [List.getD, List.getElem?_append, h]
  · rw [if_neg h]; simp [List.getD, List.getElem?_append, h]
set_option maxRecDepth 100000 in
theorem writeByteC (F : Frm) (b : Nat) (p : SV) (hp : selfS p b) (a : Option Addr) (n cap : Nat) (rd : Nat → Nat → SV) (c : UInt8) (hmx : n ≤ 1000000000) :
    ContractL F Tryz.prog 54 [.op 0 b 0, .i .u8 (c.toNat : Nat)] [selfBox b p a n cap, byRow a n cap rd]
      (fun r os => r = .v .nilIface ∧ ∃ a2 c2, os = [selfBox b (.v (.pointer (some ⟨b, 0, none⟩))) a2 (n + 1) c2, byRow a2 (n + 1) c2 (rdCat n rd (bytesRd [c]))]) := by
  refine contractL_of Tryz.func54 rfl (by kernel_rfl) ?_
  simp only [Tryz.ntmps54, argEnv]
  (repeat refine Sat.seq ?_)
  (refine Sat.region_k fun k hk => ?_; simp -implicitDefEqProofs only [evr, id, seval, selfBox]; refine hk _ ?_; clear hk k; try show Sat _ _ _ _ _)
  (repeat refine Sat.seq ?_)
  (refine Sat.region_k fun k hk => ?_; simp -implicitDefEqProofs only [evr, id, seval, selfBox])
  refine wcall_mut 0 (cchkC F b p (.os 1 a n cap) hp) rfl (by simp -implicitDefEqProofs only [evr, id, seval, selfBox]) ?_
  rintro r o1 ⟨rfl, rfl⟩
  simp -implicitDefEqProofs only [evr, id, seval, selfBox]
  (refine hk _ ?_; clear hk k; try show Sat _ _ _ _ _)
  (repeat refine Sat.seq ?_)
  (refine Sat.region_k fun k hk => ?_; simp -implicitDefEqProofs only [evr, id, seval, selfBox])
  refine fun bl => ⟨⟨by unfold maxLen; omega, by omega⟩, fun a2 c2 => ?_⟩
  (refine hk _ ?_; clear hk k; try show Sat _ _ _ _ _)
  (repeat refine Sat.seq ?_)
  (refine Sat.region_k fun k hk => ?_; simp -implicitDefEqProofs only [evr, id, seval, selfBox]; refine hk _ ?_; clear hk k; try show Sat _ _ _ _ _)
  refine Sat.le (st' := ⟨17, [(4, .v .nilIface)], [selfBox b (.v (.pointer (some ⟨b, 0, none⟩))) a2 (n + 1) c2, byRow a2 (n + 1) c2 (rdCat n rd (bytesRd [c]))]⟩) ?_ ?_
  · refine Sat.ret ?_
    simp only [Tryz.results54, evr, id, seval, selfBox, retL, retLK, resL_one, lfA, lf]
    exact ⟨_, [], (List.append_nil _).symm, by simp, _, _, rfl⟩
  · simp -implicitDefEqProofs only [evr, id, seval, selfBox, evl]
    refine ⟨rfl, ?_⟩
    intro i j hi hj
    obtain rfl : j = 0 := by omega
    unfold rdCat
    split
    · rfl
    · obtain rfl : i = n := by omega
      simp [rdL, bytesRd]
theorem writeStrL (F : Frm) (b : Nat) (p : SV) (hp : selfS p b) (a : Option Addr) (cap : Nat) (l s : List UInt8) (hs0 : s ≠ []) (hmx : l.length + s.length ≤ 1000000000) :
    ContractL F Tryz.prog 52 [.op 0 b 0, .v (.string ⟨s.toArray⟩)] [selfBox b p a l.length cap, byRow a l.length cap (bytesRd l)]
      (fun r os => r = tupL [.i .i64 s.length, .v .nilIface] ∧ ∃ a2 c2, os = [selfBox b (.v (.pointer (some ⟨b, 0, none⟩))) a2 (l ++ s).length c2, byRow a2 (l ++ s).length c2 (bytesRd (l ++ s))]) := by
  have hsz : (⟨s.toArray⟩ : ByteArray).size = s.length := by simp [ByteArray.size]
  refine (writeStrC F b p hp a l.length cap (bytesRd l) ⟨s.toArray⟩ (by rw [hsz]; exact List.length_pos_iff.2 hs0) (by rw [hsz]; exact hmx)).mono ?_
  rintro r os ⟨rfl, a2, c2, rfl⟩
  rw [hsz]
  refine ⟨rfl, a2, c2, ?_⟩
  have e1 : rdCat l.length (bytesRd l) (bytesRd s) = bytesRd (l ++ s) := bytes_cat l s
  rw [List.length_append, ← e1]
theorem writeByteL (F : Frm) (b : Nat) (p : SV) (hp : selfS p b) (a : Option Addr) (cap : Nat) (l : List UInt8) (c : UInt8) (hmx : l.length ≤ 1000000000) :
    ContractL F Tryz.prog 54 [.op 0 b 0, .i .u8 (c.toNat : Nat)] [selfBox b p a l.length cap, byRow a l.length cap (bytesRd l)]
      (fun r os => r = .v .nilIface ∧ ∃ a2 c2, os = [selfBox b (.v (.pointer (some ⟨b, 0, none⟩))) a2 (l ++ [c]).length c2, byRow a2 (l ++ [c]).length c2 (bytesRd (l ++ [c]))]) := by
  refine (writeByteC F b p hp a l.length cap (bytesRd l) c hmx).mono ?_
  rintro r os ⟨rfl, a2, c2, rfl⟩
  exact ⟨rfl, a2, c2, by rw [List.length_append, bytes_cat]; rfl⟩
end Go.Proofs.YtepkbbmjbbnhnaaGreatDoor
