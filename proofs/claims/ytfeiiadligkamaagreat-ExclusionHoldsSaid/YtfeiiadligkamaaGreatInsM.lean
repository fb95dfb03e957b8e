import Derived.Test.YtfeiiadligkamaaGreatPoE
import Derived.Test.YtfeiiadligkamaaGreatTreMath

/- Inserting into a row by append, copy and store (readers alone); the reference's order of results (no program in sight). -/
set_option linter.unusedSimpArgs false
set_option linter.unusedVariables false
namespace Go.Proofs.YtfeiiadligkamaaGreat
open Eng
def insL {α : Type} (ys : List α) (k : Nat) (r : α) : List α := ys.take k ++ r :: ys.drop k
theorem insL_len {α : Type} {ys : List α} {k : Nat} {r : α} (h : k ≤ ys.length) : (insL ys k r).length = ys.length + 1 := by
 unfold insL
 rw [List.length_append, List.length_cons, List.length_take, List.length_drop]; omega
theorem insL_mem {α : Type} {ys : List α} {k : Nat} {r x : α} : x ∈ insL ys k r ↔ x ∈ ys ∨ x = r := by
 unfold insL
 have h : x ∈ ys ↔ x ∈ ys.take k ∨ x ∈ ys.drop k := by rw [← List.mem_append, List.take_append_drop]
 rw [List.mem_append, List.mem_cons, h]
 constructor
 ·rintro (h | h | h)
  ·exact .inl (.inl h)
  ·exact .inr h
  ·exact .inl (.inr h)
 ·rintro ((h | h) | h)
  ·exact .inl h
  ·exact .inr (.inr h)
  ·exact .inr (.inl h)
theorem insL_get {α : Type} [Inhabited α] {ys : List α} {k : Nat} {r : α} (hk : k ≤ ys.length) (i : Nat) : (insL ys k r).toArray[i]! = if i < k then ys.toArray[i]! else if i = k then r else ys.toArray[i - 1]! := by
 have hl : (ys.take k).length = k := by rw [List.length_take]; omega
 unfold insL
 simp only [getElem!_def, List.getElem?_toArray, List.getElem?_append, hl]
 by_cases h : i < k
 ·simp [h, List.getElem?_take]
 ·rw [if_neg h, if_neg h]
  by_cases e : i = k
  ·subst e; simp
  ·obtain ⟨q, rfl⟩ : ∃ q, i = k + 1 + q := ⟨i - k - 1, by omega⟩
   rw [if_neg e, show k + 1 + q - k = q + 1 by omega, List.getElem?_cons_succ, List.getElem?_drop, show k + 1 + q - 1 = k + q by omega]
theorem ins_rd {α : Type} [Inhabited α] (cs : α → List SV) (sz : Nat) (hcs : ∀ x, (cs x).length = sz) {ys : List α} {k n : Nat} {r r0 : α} (hk : k ≤ ys.length) (hn : n = ys.length - k) :
  rdEq (ys.length + 1) sz (rdSet (rdMove (k + 1) k n (rdCat ys.length (fun i j => (cs ys.toArray[i]!).getD j default) (rdL (cs r0) sz))) k 0 (cs r)) (fun i j => (cs (insL ys k r).toArray[i]!).getD j default) := by
 intro i j hi hj
 show _ = (cs (insL ys k r).toArray[i]!).getD j default
 rw [insL_get hk]
 unfold rdSet rdMove rdCat rdOff
 subst hn
 by_cases e : i = k
 ·subst e
  rw [if_pos ⟨rfl, Nat.zero_le _, by rw [hcs]; omega⟩, if_neg (Nat.lt_irrefl _), if_pos rfl]
  rfl
 ·rw [if_neg (fun h => e h.1), if_neg e]
  by_cases h : i < k
  ·rw [if_pos (show i < k + 1 by omega), if_pos (show i < ys.length by omega), if_pos h]
  ·rw [if_neg (show ¬ i < k + 1 by omega), if_pos (show i - (k + 1) < ys.length - k by omega), if_neg h]
   show (if k + (i - (k + 1)) < ys.length then (cs ys.toArray[k + (i - (k + 1))]!).getD j default else _) = _
   rw [if_pos (show k + (i - (k + 1)) < ys.length by omega)]
   rw [show k + (i - (k + 1)) = i - 1 by omega]
end Go.Proofs.YtfeiiadligkamaaGreat
