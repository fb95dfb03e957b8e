/- Ledgers that are known as sets of results: union, size, equality. -/
import Derived.Test.YthhofjkbmnklmaaRefO
import Derived.Test.YthhofjkbmnklmaaLedJ
import Derived.Test.YthhofjkbmnklmaaLedK
set_option linter.unusedVariables false
namespace Go.Proofs.Ythhofjkbmnklmaa
open Go.Sort Eng

/-- the ledger of the set of results xs, of at most n -/
def IsL (p : LedP) (xs : List Res) (n : Nat) : Prop := ∃ c, Canon c xs ∧ p.led = ledOf c ∧ c.length ≤ n ∧ p.cs.length ≤ n
theorem canon_nodup {c xs : List Res} (h : Canon c xs) : c.Nodup := h.asc.imp fun hab e => by subst e; rw [resLt_irrefl] at hab; cases hab
theorem nodup_sub : ∀ {l m : List Res}, l.Nodup → (∀ x ∈ l, x ∈ m) → l.length ≤ m.length
  | [], m, _, _ => Nat.zero_le _
  | x :: l, m, h, k => by
    have h1 := List.nodup_cons.1 h
    have hx := k x (by simp)
    have := nodup_sub (l := l) (m := m.erase x) h1.2 fun y hy => by
      have hne : y ≠ x := fun e => by subst e; exact h1.1 hy
      exact (List.mem_erase_of_ne hne).2 (k y (by simp [hy]))
    rw [List.length_erase_of_mem hx] at this
    have := List.length_pos_of_mem hx
    simp only [List.length_cons]
    omega
theorem IsL.size {p : LedP} {xs : List Res} {n : Nat} (h : IsL p xs n) : p.led.size ≤ n := by
  obtain ⟨c, h1, h2, h3, h4⟩ := h
  rw [h2, ledOf_size]; exact h3
theorem IsL.cs {p : LedP} {xs : List Res} {n : Nat} (h : IsL p xs n) : p.cs.length ≤ n := by
  obtain ⟨c, h1, h2, h3, h4⟩ := h
  exact h4
theorem IsL.mem {p : LedP} {xs : List Res} {n : Nat} (h : IsL p xs n) (r : Res) : r ∈ p.led.all ↔ r ∈ xs := by
  obtain ⟨c, h1, h2, h3, h4⟩ := h
  rw [h2, ledOf_mem]; exact h1.mem r
theorem IsL.same {p q : LedP} {xs ys : List Res} {n m : Nat} (h : IsL p xs n) (k : IsL q ys m) (e : ∀ r, r ∈ xs ↔ r ∈ ys) : p.led = q.led := by
  obtain ⟨c, h1, h2, h3, h4⟩ := h
  obtain ⟨d, k1, k2, k3, k4⟩ := k
  rw [h2, k2, h1.unique k1 e]
theorem IsL.size_le {p q : LedP} {xs ys : List Res} {n m : Nat} (h : IsL p xs n) (k : IsL q ys m) (e : ∀ r, r ∈ xs → r ∈ ys) : p.led.size ≤ q.led.size := by
  obtain ⟨c, h1, h2, h3, h4⟩ := h
  obtain ⟨d, k1, k2, k3, k4⟩ := k
  rw [h2, k2, ledOf_size, ledOf_size]
  exact nodup_sub (canon_nodup h1) fun r hr => (k1.mem r).2 (e r ((h1.mem r).1 hr))
theorem IsL.size_add {p q s : LedP} {xs ys : List Res} {n m j : Nat} (h : IsL p xs n) (k : IsL q ys m) (u : IsL s (xs ++ ys) j) : s.led.size ≤ p.led.size + q.led.size := by
  obtain ⟨c, h1, h2, h3, h4⟩ := h
  obtain ⟨d, k1, k2, k3, k4⟩ := k
  obtain ⟨e, u1, u2, u3, u4⟩ := u
  rw [h2, k2, u2, ledOf_size, ledOf_size, ledOf_size, ← List.length_append]
  refine nodup_sub (canon_nodup u1) fun r hr => ?_
  have := (u1.mem r).1 hr
  rw [List.mem_append] at this ⊢
  exact this.imp (h1.mem r).2 (k1.mem r).2
theorem IsL.less {p : LedP} {xs ys : List Res} {n : Nat} (h : IsL p xs n) (e : ∀ r, r ∈ xs ↔ r ∈ ys) : IsL p ys n := by
  obtain ⟨c, h1, h2, h3, h4⟩ := h
  exact ⟨c, ⟨h1.asc, fun r => (h1.mem r).trans (e r)⟩, h2, h3, h4⟩

theorem ofL (F : Frm) (a : Option Addr) (cap : Nat) (xs : List Res) (hl : xs.length ≤ 1000000000) (hw : ∀ x ∈ xs, wfR x) :
    Contract F Try.prog 17 [.sl a xs.length cap 17 (resRd xs.toArray)] (fun r => ∃ p, IsL p xs xs.length ∧ r = ledS p) :=
  (ofC F a cap xs hl hw).mono fun r ⟨p, c, h1, h2, h3, h4, h5⟩ => ⟨p, ⟨c, h1, h2, h4, by omega⟩, h5⟩
theorem limL {xs ys : List Res} {n : Nat} (hn : n ≤ 16384) (hx : xs.length ≤ n) (e : ∀ r, r ∈ xs ↔ r ∈ ys) {r : SV} (h : limR xs r) : ∃ p, IsL p ys n ∧ r = tupL [ledS p, .i .i64 0] := by
  obtain ⟨p, c, e', h1, h2, h3, h4, h5⟩ := h
  rcases h3 with ⟨_, rfl, h3⟩ | ⟨h3, _⟩
  · exact ⟨p, ⟨c, ⟨h1.asc, fun r => (h1.mem r).trans (e r)⟩, h3, by omega, by omega⟩, h5⟩
  · omega
theorem unionL (F : Frm) {p q : LedP} {xs ys : List Res} {n m : Nat} (h : IsL p xs n) (k : IsL q ys m) (hn : n + m ≤ 16384) :
    Contract F Try.prog 18 [ledS p, ledS q] (fun r => ∃ s, IsL s (xs ++ ys) (n + m) ∧ r = tupL [ledS s, .i .i64 0]) := by
  have h1 := h.size; have h2 := k.size; have h3 := h.cs; have h4 := k.cs
  refine (unionC F p q (by omega) (by omega) (by omega)).mono fun r hr => limL hn ?_ (fun r => ?_) hr
  · rw [List.length_append]
    exact Nat.add_le_add h1 h2
  · rw [List.mem_append, List.mem_append, h.mem, k.mem]
theorem addL (F : Frm) {p : LedP} {xs : List Res} {n : Nat} (h : IsL p xs n) (a : Option Addr) (cap : Nat) (ys : List Res) (hn : n + ys.length ≤ 16384) :
    Contract F Try.prog 12 [ledS p, .sl a ys.length cap 17 (resRd ys.toArray)] (fun r => ∃ s, IsL s (xs ++ ys) (n + ys.length) ∧ r = tupL [ledS s, .i .i64 0]) := by
  have h1 := h.size; have h3 := h.cs
  refine (addC F p (by omega) a cap ys (by omega)).mono fun r hr => limL hn ?_ (fun r => ?_) hr
  · rw [List.length_append]
    exact Nat.add_le_add h1 (Nat.le_refl _)
  · rw [List.mem_append, List.mem_append, h.mem]
theorem sameL (F : Frm) {p q : LedP} {xs ys : List Res} {n m : Nat} (h : IsL p xs n) (k : IsL q ys m) (hn : n ≤ 1000000000) (hm : m ≤ 1000000000) (e : ∀ r, r ∈ xs ↔ r ∈ ys) :
    Contract F Try.prog 16 [ledS p, ledS q] (fun r => r = .b true) := by
  have h1 := h.size; have h2 := k.size; have h3 := h.cs; have h4 := k.cs
  refine (sameC F p q (by omega) (by omega) (by omega) (by omega)).mono fun r hr => ?_
  rw [hr, decide_eq_true (h.same k e)]
theorem sizeL (F : Frm) {p : LedP} {xs : List Res} {n : Nat} (h : IsL p xs n) (hn : n ≤ 1000000000) : Contract F Try.prog 19 [ledS p] (fun r => r = .i .i64 p.led.size) := by
  have h1 := h.size; have h3 := h.cs
  exact sizeC F p (by omega) (by omega)
theorem isL_0 : IsL led0 [] 0 := ⟨[], ⟨List.Pairwise.nil, fun r => Iff.rfl⟩, rfl, Nat.le_refl _, Nat.le_refl _⟩
end Go.Proofs.Ythhofjkbmnklmaa
