/- The reference of merge, in plain words: merging of sorted lists, groups without repeats. -/
import Derived.Test.YthhofjkbmnklmaaLedG
namespace Go.Proofs.Ythhofjkbmnklmaa
open Go.Sort Eng

def leR (a b : Res) : Bool := decide (resCompare a b ≤ 0)
def mrg (xs ys : List Res) : List Res := List.merge xs ys leR
def upR (l : List Res) : Prop := l.Pairwise fun a b => resLt b a = false
theorem leR_lt (a b : Res) : leR a b = true ↔ resLt b a = false := by
  unfold leR resLt
  have := resCompare_neg a b
  simp only [decide_eq_true_eq, decide_eq_false_iff_not]
  omega
theorem mrg_nil (ys : List Res) : mrg [] ys = ys := by simp [mrg]
theorem mrg_nil2 (xs : List Res) : mrg xs [] = xs := by simp [mrg]
theorem mrg_left {x y : Res} {xs ys : List Res} (h : resCompare x y ≤ 0) : mrg (x :: xs) (y :: ys) = x :: mrg xs (y :: ys) := by
  unfold mrg
  rw [List.cons_merge_cons_pos]
  simp [leR, h]
theorem mrg_right {x y : Res} {xs ys : List Res} (h : ¬ resCompare x y ≤ 0) : mrg (x :: xs) (y :: ys) = y :: mrg (x :: xs) ys := by
  unfold mrg
  rw [List.cons_merge_cons_neg]
  simp [leR, h]
theorem mrg_perm (xs ys : List Res) : (mrg xs ys).Perm (xs ++ ys) := List.merge_perm_append _
theorem upR_le {l : List Res} : upR l ↔ l.Pairwise fun a b => leR a b = true := by
  unfold upR
  constructor <;> intro h <;> exact h.imp fun {a b} h => by first | exact (leR_lt a b).2 h | exact (leR_lt a b).1 h
theorem mrg_up {xs ys : List Res} (h : upR xs) (k : upR ys) : upR (mrg xs ys) := by
  rw [upR_le] at h k ⊢
  refine List.pairwise_merge (fun a b c h1 h2 => ?_) (fun a b => ?_) xs ys h k
  · rw [leR_lt] at h1 h2 ⊢
    rcases resLt_total a b with h3 | h3 | h3
    · rcases resLt_total b c with h4 | h4 | h4
      · have h5 := resLt_trans _ _ _ h3 h4
        cases h6 : resLt c a with
        | false => rfl
        | true =>
          have := resLt_trans _ _ _ h5 h6
          rw [resLt_irrefl] at this; cases this
      · subst h4; exact h1
      · rw [h2] at h4; cases h4
    · subst h3; exact h2
    · rw [h1] at h3; cases h3
  · simp only [leR, Bool.or_eq_true, decide_eq_true_eq]
    have := resCompare_neg a b
    omega

/-! ### without repeats -/
theorem compact_ne {l : List Res} (h : l ≠ []) : compact l ≠ [] := by
  match l, h with
  | x :: t, _ =>
    obtain ⟨u, e⟩ := compact_head x t
    rw [e]; simp
theorem compact_cat : ∀ (l : List Res) (x : Res) (m : List Res), compact (l ++ x :: m) = if l.getLast? = some x then compact l ++ (compact (x :: m)).tail else compact l ++ compact (x :: m)
  | [], x, m => by simp [compact]
  | [y], x, m => by
    simp only [List.cons_append, List.nil_append, List.getLast?_singleton, Option.some.injEq]
    obtain ⟨u, e⟩ := compact_head x m
    by_cases h : y = x
    · subst h
      simp [compact, e]
    · simp [compact, h]
  | y :: z :: l, x, m => by
    have ih := compact_cat (z :: l) x m
    have e1 : (y :: z :: l).getLast? = (z :: l).getLast? := by simp [List.getLast?_cons_cons]
    rw [e1]
    simp only [List.cons_append] at ih ⊢
    by_cases h : y = z
    · subst h
      simp only [compact, if_true] at ih ⊢
      exact ih
    · simp only [compact, h, if_false]
      rw [ih]
      split <;> simp
theorem compact_last : ∀ l : List Res, (compact l).getLast? = l.getLast?
  | [] => rfl
  | [x] => rfl
  | x :: y :: l => by
    have ih := compact_last (y :: l)
    unfold compact
    rw [List.getLast?_cons_cons, ← ih]
    split
    · rfl
    · obtain ⟨u, e⟩ := compact_head y l
      rw [e, List.getLast?_cons_cons]
theorem compact_push {l : List Res} (hl : l ≠ []) (x : Res) : compact (l ++ [x]) = if x = (compact l)[(compact l).length - 1]! then compact l else compact l ++ [x] := by
  rw [compact_cat, ← compact_last, List.getLast?_eq_getElem?]
  have hn := compact_ne hl
  have hp : (compact l).length - 1 < (compact l).length := by
    have := List.length_pos_iff.2 hn
    omega
  rw [List.getElem?_eq_getElem hp, getElem!_pos (compact l) _ hp]
  by_cases h : x = (compact l)[(compact l).length - 1]
  · simp [← h, compact]
  · have h2 : ¬ (compact l)[(compact l).length - 1] = x := fun e => h e.symm
    simp [h, h2, compact]
theorem take_snoc {l : List Res} {n : Nat} (h : n < l.length) : l.take (n + 1) = l.take n ++ [l[n]!] := by
  rw [List.take_succ_eq_append_getElem h, getElem!_pos l n h]
theorem of_step {rest : List Res} {n : Nat} (h1 : 1 ≤ n) (h2 : n ≤ rest.length) (h3 : ∀ q, q < n → sameId rest[q]! rest[0]! = true) (h4 : n = rest.length ∨ sameId rest[n]! rest[0]! = false) :
    1 ≤ (compact (rest.take n)).length ∧ (compact (rest.take n)).length ≤ (compact rest).length ∧ (compact rest).take (compact (rest.take n)).length = compact (rest.take n) ∧ (compact rest).drop (compact (rest.take n)).length = compact (rest.drop n) ∧ (compact rest)[0]! = rest[0]! ∧
    (∀ q, 1 ≤ q → q < (compact (rest.take n)).length → sameId (compact rest)[0]! (compact rest)[q]! = true) ∧ ((compact (rest.take n)).length = (compact rest).length ∨ sameId (compact rest)[0]! (compact rest)[(compact (rest.take n)).length]! = false) := by
  have hne : rest.take n ≠ [] := fun e => by
    have := congrArg List.length e
    rw [List.length_take, List.length_nil] at this
    omega
  have hmem : ∀ y ∈ compact (rest.take n), sameId y rest[0]! = true := fun y hy => by
    obtain ⟨q, hq, rfl⟩ := List.getElem_of_mem ((compact_mem _ _).1 hy)
    have hq' : q < n ∧ q < rest.length := by rw [List.length_take] at hq; omega
    have := h3 q hq'.1
    rw [getElem!_pos rest q hq'.2] at this
    rwa [List.getElem_take]
  have hhd : (compact rest)[0]! = rest[0]! := by
    match rest, h2 with
    | [], h2 => simp at h2; omega
    | x :: t, _ =>
      obtain ⟨u, e⟩ := compact_head x t
      rw [e]; rfl
  have hcat : compact rest = compact (rest.take n) ++ compact (rest.drop n) := by
    rcases h4 with h4 | h4
    · subst h4
      simp [compact]
    · by_cases hl : n = rest.length
      · subst hl
        simp [compact]
      · have hd : rest.drop n = rest[n]! :: rest.drop (n + 1) := by
          rw [getElem!_pos rest n (by omega), List.drop_eq_getElem_cons (by omega)]
        have := compact_cat (rest.take n) rest[n]! (rest.drop (n + 1))
        rw [← hd, List.take_append_drop] at this
        rw [this, if_neg]
        intro e
        have h5 := hmem rest[n]! (by
          rw [compact_mem]
          exact List.mem_of_getLast? e)
        rw [h4] at h5; cases h5
  have hpos := List.length_pos_iff.2 (compact_ne hne)
  refine ⟨hpos, by rw [hcat, List.length_append]; omega, by rw [hcat]; simp, by rw [hcat]; simp, hhd, fun q hq1 hq2 => ?_, ?_⟩
  · rw [hhd, sameId_symm, hcat, getElem!_pos (compact (rest.take n) ++ compact (rest.drop n)) q (by rw [List.length_append]; omega), List.getElem_append_left hq2]
    exact hmem _ (List.getElem_mem _)
  · rcases h4 with h4 | h4
    · left
      subst h4
      simp
    · by_cases hl : n = rest.length
      · left
        subst hl
        simp
      · right
        have hd : rest.drop n = rest[n]! :: rest.drop (n + 1) := by
          rw [getElem!_pos rest n (by omega), List.drop_eq_getElem_cons (by omega)]
        obtain ⟨u, e⟩ := compact_head rest[n]! (rest.drop (n + 1))
        rw [hhd, sameId_symm, hcat, hd, e, getElem!_pos (compact (rest.take n) ++ rest[n]! :: u) _ (by simp), List.getElem_append_right (Nat.le_refl _)]
        simpa using h4
end Go.Proofs.Ythhofjkbmnklmaa
