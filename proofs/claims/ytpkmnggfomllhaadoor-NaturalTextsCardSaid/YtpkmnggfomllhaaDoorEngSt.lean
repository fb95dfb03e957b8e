/- The evaluator: range over a string of ASCII bytes (an iterator is a block of the call's own). -/
import Derived.Test.YtpkmnggfomllhaaDoorEngV
import Derived.Laws.RangeString
set_option linter.unusedSimpArgs false
set_option linter.unusedVariables false
namespace Go.Proofs.YtpkmnggfomllhaaDoor
namespace Eng
def IterAt (blk : Nat) (s : ByteArray) (pos : Nat) (w : World) : Prop := w.heap[blk]? = some (.stringIter s pos)
theorem run_next_at {P : Program} (w : World) (blk : Nat) (s : ByteArray) (pos : Nat) (ty : TypeId) (hw : w.heap[blk]? = some (.stringIter s pos)) (h : pos < s.size) (ha : (s[pos]'h).toNat < 128) :
    (Instr.next (.pointer (some ⟨blk, 0, none⟩)) true ty).run P w = .ok (.tuple #[.bool true, .int .i64 pos, .int .i32 (s[pos]'h).toNat]) { w with heap := w.heap.setIfInBounds blk (.stringIter s (pos + 1)) } := by
  simp only [Instr.next, getObj, setObj, Sem.run_bind, Sem.run, hw, Result.andThen, h, if_true, decode_ascii s pos h ha]
  simp [goInt, Sem.run, hw]
theorem run_next_over {P : Program} (w : World) (blk : Nat) (s : ByteArray) (pos : Nat) (ty : TypeId) (hw : w.heap[blk]? = some (.stringIter s pos)) (h : ¬ pos < s.size) :
    (Instr.next (.pointer (some ⟨blk, 0, none⟩)) true ty).run P w = .ok (.tuple #[.bool false]) w := by
  simp [Instr.next, getObj, Sem.run, hw, h]
variable {P : Program}
theorem Sat.region_next {F : Frm} {n : Nat} {env : List (Nat × SV)} {own : List Own} {K : Exit → St → Prop} {id : Nat} {rest : List Oper} {d it : Tmp} {ty : TypeId} {posn : String} {aft : Array Edge} {blk oid pos : Nat} {s : ByteArray} (hd : d < n)
    (hit : look env it = some (.v (.pointer (some ⟨blk, 0, none⟩)))) (ho : own[oid]? = some (.res blk (IterAt blk s pos))) (hasc : ∀ h : pos < s.size, (s[pos]'h).toNat < 128)
    (h1 : ∀ h : pos < s.size, ∀ k : St → Prop, (∀ st', K .normal st' → k st') → WO P F ((⟨some d, .next (.tmp it) true, ty, posn, aft, none⟩ :: rest).map (·.dst)) rest ⟨n, (d, .tup 3 fun j => [SV.b true, .i .i64 pos, .i .i32 (s[pos]'h).toNat].getD j default) :: env, own.set oid (.res blk (IterAt blk s (pos + 1)))⟩ k)
    (h2 : ¬ pos < s.size → ∀ k : St → Prop, (∀ st', K .normal st' → k st') → WO P F ((⟨some d, .next (.tmp it) true, ty, posn, aft, none⟩ :: rest).map (·.dst)) rest ⟨n, (d, .tup 1 fun j => [SV.b false].getD j default) :: env, own⟩ k) :
    Sat P F (.region id (⟨some d, .next (.tmp it) true, ty, posn, aft, none⟩ :: rest).toArray false) ⟨n, env, own⟩ K := by
  intro R0 w0 a w hr
  refine wp_region_lit ?_
  unfold wpList
  rw [if_pos (by simp [Region.wanted])]
  refine .inl ?_
  obtain ⟨ob, R, hrr⟩ := hr
  have hown := hrr.own oid _ ho
  obtain ⟨b1, b2, b3, b4⟩ := hown
  have hit' : a.eval (.tmp it) = .pointer (some ⟨blk, 0, none⟩) := (ev_ok hrr.env (x := .tmp it) hit).1
  have hblk : w.heap[blk]? = some (.stringIter s pos) := b4 w fun _ _ => rfl
  unfold Oper.wp
  by_cases hp : pos < s.size
  · have hrun := run_next_at (P := P) w blk s pos ty hblk hp (hasc hp)
    have hop : (execOp a.eval ⟨some d, .next (.tmp it) true, ty, posn, aft, none⟩).run P w = .ok (.value (.tuple #[.bool true, .int .i64 pos, .int .i32 (s[pos]'hp).toNat])) { w with heap := w.heap.setIfInBounds blk (.stringIter s (pos + 1)) } := by
      simp [execOp, hit', hrun]
    rw [hop]
    have hsz : w.heap.size ≤ (w.heap.setIfInBounds blk (.stringIter s (pos + 1))).size := by simp
    have hnew : RelR F R0 w0 ob R ⟨n, env, own.set oid (.res blk (IterAt blk s (pos + 1)))⟩ a { w with heap := w.heap.setIfInBounds blk (.stringIter s (pos + 1)) } :=
      hrr.setOwn (g := blk) ho rfl (fun b hb => by simpa [Own.blk] using hb.symm) rfl rfl rfl hsz (fun b hb hne => by simp [Array.getElem?_setIfInBounds, Ne.symm hne])
        ⟨b1, b2, by simpa using b3, fun w' hw' => by
          have := hw' blk (.inr rfl)
          unfold IterAt
          rw [this]
          simp [Array.getElem?_setIfInBounds, b3]⟩
    have hput := hnew.put (d := some d) (s := .tup 3 fun j => [SV.b true, .i .i64 pos, .i .i32 (s[pos]'hp).toNat].getD j default) (fun t ht => by cases ht; exact hd) (fun j hj => by
      rcases (show j = 0 ∨ j = 1 ∨ j = 2 by omega) with rfl | rfl | rfl <;> trivial)
    exact wo_sound (Q := fun e a1 w1 => ∃ st1, K e st1 ∧ Rel F R0 w0 st1 a1 w1) (ops := (⟨some d, .next (.tmp it) true, ty, posn, aft, none⟩ :: rest).toArray) (k := K .normal) rest _ _ _ (by rw [List.toList_toArray]; exact h1 hp _ fun _ h => h) ⟨ob, R, hput⟩ fun st' a' w' hk hr' => ⟨st', hk, hr'⟩
  · have hrun := run_next_over (P := P) w blk s pos ty hblk hp
    have hop : (execOp a.eval ⟨some d, .next (.tmp it) true, ty, posn, aft, none⟩).run P w = .ok (.value (.tuple #[.bool false])) w := by
      simp [execOp, hit', hrun]
    rw [hop]
    have hput := hrr.put (d := some d) (s := .tup 1 fun j => [SV.b false].getD j default) (fun t ht => by cases ht; exact hd) (fun j hj => by
      obtain rfl : j = 0 := by omega
      trivial)
    exact wo_sound (Q := fun e a1 w1 => ∃ st1, K e st1 ∧ Rel F R0 w0 st1 a1 w1) (ops := (⟨some d, .next (.tmp it) true, ty, posn, aft, none⟩ :: rest).toArray) (k := K .normal) rest _ _ _ (by rw [List.toList_toArray]; exact h2 hp _ fun _ h => h) ⟨ob, R, hput⟩ fun st' a' w' hk hr' => ⟨st', hk, hr'⟩
theorem Sat.region_range {F : Frm} {n : Nat} {env : List (Nat × SV)} {own : List Own} {K : Exit → St → Prop} {id : Nat} {d e x : Tmp} {t ty0 ty1 : TypeId} {p0 p1 : String} {aft0 aft1 : Array Edge} {s : ByteArray} (hd : d < n) (he : e < n)
    (ht : P.underlying t = some .string) (hx : look env x = some (.v (.string s)))
    (h : ∀ blk, K .normal ⟨n, (e, .v (.pointer (some ⟨blk, 0, none⟩))) :: (d, .v (.string s)) :: env, own ++ [.res blk (IterAt blk s 0)]⟩) :
    Sat P F (.region id #[⟨some d, .move (.tmp x), ty0, p0, aft0, none⟩, ⟨some e, .range t (.tmp d), ty1, p1, aft1, none⟩] false) ⟨n, env, own⟩ K := by
  intro R0 w0 a w hr
  refine wp_region_lit ?_
  obtain ⟨ob, R, hrr⟩ := hr
  have hx' : a.eval (.tmp x) = .string s := (ev_ok hrr.env (x := .tmp x) hx).1
  unfold wpList
  rw [if_pos (by simp [Region.wanted])]
  refine .inl ?_
  unfold Oper.wp
  have hop : (execOp a.eval ⟨some d, .move (.tmp x), ty0, p0, aft0, none⟩).run P w = .ok (.value (.string s)) w := by
    simp [execOp, hx']
  rw [hop]
  have hput := hrr.put (d := some d) (s := .v (.string s)) (fun t ht => by cases ht; exact hd) trivial
  have hd' : (a.put (some d) (.string s)).eval (.tmp d) = .string s := (ev_ok hput.env (x := .tmp d) (s := .v (.string s)) (by simp [ev, St.put, look])).1
  show wpList P _ _ [_] (a.put (some d) (.string s)) w
  unfold wpList
  rw [if_pos (by simp [Region.wanted])]
  refine .inl ?_
  unfold Oper.wp
  have hop2 : (execOp (a.put (some d) (.string s)).eval ⟨some e, .range t (.tmp d), ty1, p1, aft1, none⟩).run P w = .ok (.value (.pointer (some ⟨w.heap.size, 0, none⟩))) (w.iter s 0) := by
    have := run_range_string (P := P) w t s ht
    simp [execOp, hd', this]
  rw [hop2]
  have hg : w.grownBy (w.iter s 0) none := ⟨rfl, rfl, rfl, (by show w.heap.size ≤ (w.heap.push _).size; simp), fun b hb _ => by
    show (w.heap.push _)[b]? = _
    rw [Array.getElem?_push, if_neg (by omega)]⟩
  have hnew := hput.newRow (o := .res w.heap.size (IterAt w.heap.size s 0)) hg (fun b hb => by simpa [Own.blk] using hb.symm) ⟨hput.obw, fun hc => by have := (hput.rr _ hc).1; omega, (by show w.heap.size < (w.heap.push _).size; simp), fun w' hw' => by
    unfold IterAt
    rw [hw' _ (.inr rfl), World.iter_heap]⟩
  have hput2 := hnew.put (d := some e) (s := .v (.pointer (some ⟨w.heap.size, 0, none⟩))) (fun t ht => by cases ht; exact he) trivial
  exact ⟨_, h w.heap.size, ob, R, hput2⟩
end Eng
end Go.Proofs.YtpkmnggfomllhaaDoor
