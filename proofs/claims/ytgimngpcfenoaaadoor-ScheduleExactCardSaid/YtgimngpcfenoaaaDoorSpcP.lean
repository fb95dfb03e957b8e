/- The table of the special blocks in memory. -/
import Derived.Test.YtgimngpcfenoaaaDoorGlbE
import Derived.Test.YtgimngpcfenoaaaDoorAdrP
import Derived.ChangeSame
import Derived.OpenShut
set_option linter.unusedSimpArgs false
set_option linter.unusedVariables false
namespace Go.Proofs.YtgimngpcfenoaaaDoor
open Go.Sort Eng Go.ChangeShapes
def blkP (i : Nat) : Prf := [⟨0, 8⟩, ⟨2130706432, 8⟩, ⟨167772160, 8⟩, ⟨2886729728, 12⟩, ⟨3232235520, 16⟩, ⟨2851995648, 16⟩, ⟨3758096384, 4⟩, ⟨4026531840, 4⟩].getD i default
def blkK (i : Nat) : Int := [1, 2, 3, 3, 3, 4, 5, 6].getD i 0
def blkC (i : Nat) : List SV := [.i .u32 (blkP i).addr, .i .i64 (blkP i).len, .i .i64 (blkK i)]
def blkL : List SV := (List.range 8).flatMap blkC
def blkD (i : Nat) : DataW Unit := .agg [.agg [.lit (.int .u32 (blkP i).addr), .lit (.int .i64 (blkP i).len)], .lit (.int .i64 (blkK i))]
def BlkT (w : World) : Prop := ∀ j, j < 24 → w.cell? ⟨0, j, none⟩ = some (blkL.getD j default).den
theorem blk_low : LowFact (0 + 1) BlkT := fun w w' h ht j hj => (World.cell?_of_block (w := w) (a := ⟨0, j, none⟩) (h _ (Nat.lt_succ_self _))).trans (ht j hj)
section
variable {P : Program} {w : World} {fuel : Nat}
theorem chunk_int {k : IntKind} {z : Int} {t : TypeId} {cs : List Value} {p : List MemPlace} (ht : P.underlying t = some (.int k)) (h : DataW.trod (fun _ => ()) P w 0 (fun _ => true) false fuel t cs = some (.lit (.int k z), p)) : cs = [.int k z] := by
  obtain ⟨n, rfl, hx, _⟩ := DataW.trod_int ht h
  simp only [Prod.mk.injEq, DataW.lit.injEq, Lit.int.injEq, true_and] at hx
  rw [hx.1]
end
theorem take_two {A : Type} {cs : List A} {a b : A} (hl : cs.length = 2) (h0 : (cs.drop 0).take 1 = [a]) (h1 : (cs.drop 1).take 1 = [b]) : cs = [a, b] := by
  match cs, hl with
  | [x, y], _ => simp at h0 h1; rw [h0, h1]
theorem take_three {A : Type} {cs : List A} {a b c : A} (hl : cs.length = 3) (h0 : (cs.drop 0).take 2 = [a, b]) (h1 : (cs.drop 2).take 1 = [c]) : cs = [a, b, c] := by
  match cs, hl with
  | [x, y, z], _ => simp at h0 h1; rw [h0.1, h0.2, h1]
theorem field_at {P : Program} {t : TypeId} {ps : List (Nat × TypeId)} (hm : (P.fieldsOf t).toList.map (fun f => (f.offset, f.type)) = ps) (i : Nat) (q : Nat × TypeId) (hq : ps[i]? = some q) : ∃ f, (P.fieldsOf t)[i]? = some f ∧ f.offset = q.1 ∧ f.type = q.2 := by
  rw [← hm, List.getElem?_map] at hq
  cases hf : (P.fieldsOf t).toList[i]? with
  | none => rw [hf] at hq; cases hq
  | some f =>
    rw [hf] at hq
    cases hq
    exact ⟨f, by rw [← Array.getElem?_toList]; exact hf, rfl, rfl⟩
theorem trod_two {P : Program} {w : World} {fuel : Nat} {t t0 t1 : TypeId} {o0 o1 z0 z1 z : Nat} {cs : List Value} {d0 d1 : DataW Unit} {p : List MemPlace} (hu : P.underlying t = some (.struct (P.fieldsOf t)))
    (hm : (P.fieldsOf t).toList.map (fun f => (f.offset, f.type)) = [(o0, t0), (o1, t1)]) (c : P.cellsOf t = z) (c0 : P.cellsOf t0 = z0) (c1 : P.cellsOf t1 = z1)
    (h : DataW.trod (fun _ => ()) P w 0 (fun _ => true) false fuel t cs = some (.agg [d0, d1], p)) :
    ∃ n p0 p1, cs.length = z ∧ DataW.trod (fun _ => ()) P w 0 (fun _ => true) false n t0 ((cs.drop o0).take z0) = some (d0, p0) ∧ DataW.trod (fun _ => ()) P w 0 (fun _ => true) false n t1 ((cs.drop o1).take z1) = some (d1, p1) := by
  obtain ⟨xs, n, _, hx, hl, hlen, hf⟩ := DataW.trod_struct hu h
  have hsz : (P.fieldsOf t).size = 2 := by
    have := congrArg List.length hm
    simpa using this
  obtain ⟨f0, g0, e0, e1⟩ := field_at hm 0 _ rfl
  obtain ⟨f1, g1, e2, e3⟩ := field_at hm 1 _ rfl
  have k0 := hf 0 f0 g0
  have k1 := hf 1 f1 g1
  simp only at e0 e1 e2 e3
  rw [e0, e1, c0] at k0
  rw [e2, e3, c1] at k1
  match xs, hlen.trans hsz with
  | [y0, y1], _ =>
    simp only [Prod.mk.injEq, List.map_cons, List.map_nil, DataW.agg.injEq, List.cons.injEq, and_true] at hx
    obtain ⟨⟨a0, a1⟩, _⟩ := hx
    subst a0 a1
    exact ⟨n, y0.2, y1.2, hl.trans c, k0, k1⟩
set_option maxRecDepth 100000 in
theorem chunk_prefix {w : World} {fuel : Nat} {a : Nat} {l : Int} {cs : List Value} {p : List MemPlace}
    (h : DataW.trod (fun _ => ()) Tryd.prog w 0 (fun _ => true) false fuel 108 cs = some (.agg [.lit (.int .u32 a), .lit (.int .i64 l)], p)) : cs = [.int .u32 a, .int .i64 l] := by
  obtain ⟨n, p0, p1, hl, h0, h1⟩ := trod_two (t0 := 54) (t1 := 3) (o0 := 0) (o1 := 1) (z := 2) (z0 := 1) (z1 := 1) (by kernel_rfl) (by kernel_rfl) (by kernel_rfl) (by kernel_rfl) (by kernel_rfl) h
  exact take_two hl (chunk_int (k := .u32) (by kernel_rfl) h0) (chunk_int (k := .i64) (by kernel_rfl) h1)
set_option maxRecDepth 100000 in
theorem chunk_block {w : World} {fuel : Nat} {a : Nat} {l k : Int} {cs : List Value} {p : List MemPlace}
    (h : DataW.trod (fun _ => ()) Tryd.prog w 0 (fun _ => true) false fuel 110 cs = some (.agg [.agg [.lit (.int .u32 a), .lit (.int .i64 l)], .lit (.int .i64 k)], p)) : cs = [.int .u32 a, .int .i64 l, .int .i64 k] := by
  obtain ⟨n, p0, p1, hl, h0, h1⟩ := trod_two (t0 := 108) (t1 := 3) (o0 := 0) (o1 := 2) (z := 3) (z0 := 2) (z1 := 1) (by kernel_rfl) (by kernel_rfl) (by kernel_rfl) (by kernel_rfl) (by kernel_rfl) h
  exact take_three hl (chunk_prefix h0) (chunk_int (k := .i64) (by kernel_rfl) h1)
theorem at_of_chunk {A : Type} {cs : List A} {o z j : Nat} {l : List A} {x : A} (h : (cs.drop o).take z = l) (hj : l[j]? = some x) : cs[o + j]? = some x := by
  subst h
  rw [List.getElem?_take] at hj
  split at hj
  · rw [List.getElem?_drop] at hj; exact hj
  · cases hj
set_option maxRecDepth 100000 in
theorem blk_of_laid {w : World} {l : List (String × DataW Unit)} (h : laidMetH Tryd.prog l w) (hp : (l.all fun x => x.2.handleName?.isNone) = true) (hm : ("routescope/address.blocks", DataW.agg [blkD 0, blkD 1, blkD 2, blkD 3, blkD 4, blkD 5, blkD 6, blkD 7]) ∈ l) : BlkT w ∧ 0 + 1 ≤ w.heap.size := by
  rw [MakeChecks.laidMetH_plain _ _ _ hp] at h
  obtain ⟨ps, hl, _, _⟩ := h
  obtain ⟨g, t, cs, fuel, p, hg', ht', hvar, hd⟩ := laid_mem hl hm
  have hg : Tryd.prog.globalNamed "routescope/address.blocks" = some 0 := by kernel_rfl
  have hty : (Tryd.prog.globals[0]?).map (·.type) = some 111 := by kernel_rfl
  have hta : Tryd.prog.underlying 111 = some (.array 8 110) := by kernel_rfl
  obtain rfl := Option.some.inj (hg.symm.trans hg')
  obtain rfl := Option.some.inj (hty.symm.trans ht')
  have hcell := World.var?_cell hg hvar
  obtain ⟨xs, m, _, hx, hlen, hxl, hf⟩ := DataW.trod_array hta hd
  have cb : Tryd.prog.cellsOf 110 = 3 := by kernel_rfl
  simp only [Prod.mk.injEq, DataW.agg.injEq] at hx
  have hone : ∀ i, i < 8 → ∀ j, j < 3 → cs.toList[i * 3 + j]? = some ((blkC i).getD j default).den := by
    intro i hi j hj
    have h1 := hf i hi
    rw [cb] at h1
    have h2 : (xs.map (·.1))[i]? = some (blkD i) := by
      rw [← hx.1]
      rcases (show i = 0 ∨ i = 1 ∨ i = 2 ∨ i = 3 ∨ i = 4 ∨ i = 5 ∨ i = 6 ∨ i = 7 by omega) with rfl | rfl | rfl | rfl | rfl | rfl | rfl | rfl <;> rfl
    rw [List.getElem?_map] at h2
    cases hxi : xs[i]? with
    | none => rw [hxi] at h2; cases h2
    | some y =>
      rw [hxi] at h2 h1
      have e : y = (blkD i, y.2) := by
        cases h2'' : y with
        | mk a b => rw [h2''] at h2; simp at h2; rw [h2]
      rw [e] at h1
      refine at_of_chunk (chunk_block h1) ?_
      rcases (show j = 0 ∨ j = 1 ∨ j = 2 by omega) with rfl | rfl | rfl <;> rfl
  refine ⟨fun j hj => ?_, ?_⟩
  · have h1 := hone (j / 3) (by omega) (j % 3) (by omega)
    rw [show j / 3 * 3 + j % 3 = j by omega] at h1
    have e : (blkL.getD j default) = (blkC (j / 3)).getD (j % 3) default := by
      have : ∀ j, j < 24 → blkL.getD j default = (blkC (j / 3)).getD (j % 3) default := by
        intro j hj
        rcases (show j = 0 ∨ j = 1 ∨ j = 2 ∨ j = 3 ∨ j = 4 ∨ j = 5 ∨ j = 6 ∨ j = 7 ∨ j = 8 ∨ j = 9 ∨ j = 10 ∨ j = 11 ∨ j = 12 ∨ j = 13 ∨ j = 14 ∨ j = 15 ∨ j = 16 ∨ j = 17 ∨ j = 18 ∨ j = 19 ∨ j = 20 ∨ j = 21 ∨ j = 22 ∨ j = 23 by omega) with rfl | rfl | rfl | rfl | rfl | rfl | rfl | rfl | rfl | rfl | rfl | rfl | rfl | rfl | rfl | rfl | rfl | rfl | rfl | rfl | rfl | rfl | rfl | rfl <;> rfl
      exact this j hj
    rw [e]
    refine (hcell j).trans ?_
    rw [← Array.getElem?_toList]
    exact h1
  · unfold World.var? at hvar
    rw [hg] at hvar
    simp only [Option.bind_some] at hvar
    by_cases h0 : 0 < w.heap.size
    · exact h0
    · rw [Array.getElem?_eq_none (by omega)] at hvar; cases hvar
end Go.Proofs.YtgimngpcfenoaaaDoor
