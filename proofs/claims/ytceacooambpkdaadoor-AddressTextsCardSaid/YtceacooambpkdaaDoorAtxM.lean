/- Texts of addresses and prefixes, plain: pieces at a byte, small decimal numbers, addresses. -/
import Derived.Test.YtceacooambpkdaaDoorPrfM
import Derived.Lib.IndexLaws
import Derived.Lib.ItoaNum
import Derived.Lib.AtoiAll
namespace Go.Proofs.YtceacooambpkdaaDoor

/-- the pieces of a text between the bytes c -/
def splitB (c : UInt8) : List UInt8 → List (List UInt8)
  | [] => [[]]
  | x :: l => if x = c then [] :: splitB c l else match splitB c l with
    | p :: r => (x :: p) :: r
    | [] => [[x]]
theorem splitB_ne (c : UInt8) : ∀ l, splitB c l ≠ []
  | [] => by simp [splitB]
  | x :: l => by
    unfold splitB
    split
    · simp
    · split <;> simp
theorem splitB_none (c : UInt8) : ∀ l, (∀ x ∈ l, x ≠ c) → splitB c l = [l]
  | [], _ => rfl
  | x :: l, h => by
    have h1 := splitB_none c l (fun y hy => h y (List.mem_cons_of_mem _ hy))
    unfold splitB
    rw [if_neg (h x List.mem_cons_self), h1]
theorem splitB_app (c : UInt8) : ∀ (l r : List UInt8), (∀ x ∈ l, x ≠ c) → splitB c (l ++ c :: r) = l :: splitB c r
  | [], r, _ => by simp [splitB]
  | x :: l, r, h => by
    have h1 := splitB_app c l r (fun y hy => h y (List.mem_cons_of_mem _ hy))
    rw [List.cons_append]
    conv => lhs; unfold splitB
    rw [if_neg (h x List.mem_cons_self), h1]
theorem index_none {c : UInt8} {l : List UInt8} (h : Lib.indexByte l c = -1) : ∀ x ∈ l, x ≠ c := by
  intro x hx he
  obtain ⟨k, hk⟩ := List.getElem?_of_mem hx
  exact Lib.indexByte_none h k (by rw [hk, he])
theorem index_some {c : UInt8} {l : List UInt8} {n : Nat} (h : Lib.indexByte l c = n) : n < l.length ∧ l = l.take n ++ c :: l.drop (n + 1) ∧ ∀ x ∈ l.take n, x ≠ c := by
  obtain ⟨h1, h2⟩ := Lib.indexByte_some h
  have hlt : n < l.length := (List.getElem?_eq_some_iff.1 h1).1
  refine ⟨hlt, ?_, fun x hx he => ?_⟩
  · have h3 := List.drop_eq_getElem_cons hlt
    have h4 : l[n] = c := (List.getElem?_eq_some_iff.1 h1).2
    rw [h4] at h3
    rw [← h3, List.take_append_drop]
  · obtain ⟨k, hk⟩ := List.getElem?_of_mem hx
    rw [List.getElem?_take] at hk
    split at hk
    · rename_i hkn
      exact h2 k hkn (by rw [hk, he])
    · cases hk
theorem split_index_none {c : UInt8} {l : List UInt8} (h : Lib.indexByte l c = -1) : splitB c l = [l] := splitB_none c l (index_none h)
theorem split_index_some {c : UInt8} {l : List UInt8} {n : Nat} (h : Lib.indexByte l c = n) : splitB c l = l.take n :: splitB c (l.drop (n + 1)) := by
  obtain ⟨_, h2, h3⟩ := index_some h
  conv => lhs; rw [h2]
  exact splitB_app c _ _ h3

/-- the number at most m that a text is the decimal of -/
def numB (s : List UInt8) (m : Nat) : Option Nat := (List.range (m + 1)).find? fun n => Lib.decDigits n == s
theorem numB_some {s : List UInt8} {m n : Nat} (h : numB s m = some n) : n ≤ m ∧ Lib.decDigits n = s := by
  unfold numB at h
  have h1 := List.find?_some h
  have h2 := List.mem_of_find?_eq_some h
  rw [List.mem_range] at h2
  exact ⟨by omega, by simpa using h1⟩
theorem numB_none {s : List UInt8} {m : Nat} (h : numB s m = none) : ∀ n, n ≤ m → Lib.decDigits n ≠ s := by
  intro n hn he
  unfold numB at h
  rw [List.find?_eq_none] at h
  have := h n (List.mem_range.2 (by omega))
  simp [he] at this
theorem dig_small : ∀ n : Fin 1000, Lib.decDigits n.val = if n.val < 10 then [UInt8.ofNat (48 + n.val)] else if n.val < 100 then [UInt8.ofNat (48 + n.val / 10), UInt8.ofNat (48 + n.val % 10)] else [UInt8.ofNat (48 + n.val / 100), UInt8.ofNat (48 + n.val / 10 % 10), UInt8.ofNat (48 + n.val % 10)] := by decide +kernel
def atoiOk (n : Nat) : Bool := match Lib.atoiAll (Lib.decDigits n) with
  | .ok v => v == (n : Int)
  | _ => false
theorem atoi_small : ∀ n : Fin 1000, atoiOk n.val = true := by decide +kernel
/-- the number that decimal digits denote -/
def digV (l : List UInt8) : Nat := l.foldl (fun n c => 10 * n + (c.toNat - 48)) 0
theorem digV_small : ∀ n : Fin 1000, digV (Lib.decDigits n.val) = n.val := by decide +kernel
theorem dig_chars : ∀ n : Fin 1000, (Lib.decDigits n.val).all (fun c => decide (48 ≤ c.toNat) && decide (c.toNat ≤ 57)) = true := by decide +kernel
theorem dig_inj {a b : Nat} (ha : a < 1000) (hb : b < 1000) (h : Lib.decDigits a = Lib.decDigits b) : a = b := by
  have h1 := digV_small ⟨a, ha⟩
  have h2 := digV_small ⟨b, hb⟩
  simp only at h1 h2
  rw [← h1, ← h2, h]
theorem numB_dig {m n : Nat} (hm : m < 1000) (hn : n ≤ m) : numB (Lib.decDigits n) m = some n := by
  cases h : numB (Lib.decDigits n) m with
  | none => exact absurd rfl (numB_none h n hn)
  | some k =>
    obtain ⟨h1, h2⟩ := numB_some h
    rw [dig_inj (by omega) (by omega) h2]
/-- no digit is a dot or a stroke -/
theorem dig_ne {n : Nat} (hn : n < 1000) {c : UInt8} (hc : c.toNat < 48) : ∀ x ∈ Lib.decDigits n, x ≠ c := by
  intro x hx he
  have h := List.all_eq_true.1 (dig_chars ⟨n, hn⟩) x hx
  simp only [Bool.and_eq_true, decide_eq_true_eq] at h
  subst he
  omega

/-! ### Addresses -/
def adVal (l : List Nat) : Nat := l.foldl (fun a n => a * 256 + n) 0
/-- the address that a text means -/
def parB (s : List UInt8) : Option Nat :=
  match splitB 46 s with
  | [p, q, r, t] => match numB p 255, numB q 255, numB r 255, numB t 255 with
    | some a, some b, some c, some d => some (adVal [a, b, c, d])
    | _, _, _, _ => none
  | _ => none
def octet (a i : Nat) : Nat := a / 2 ^ (24 - 8 * i) % 256
def fmtB (a : Nat) : List UInt8 := Lib.decDigits (octet a 0) ++ 46 :: (Lib.decDigits (octet a 1) ++ 46 :: (Lib.decDigits (octet a 2) ++ 46 :: Lib.decDigits (octet a 3)))
theorem octet_lt (a i : Nat) : octet a i < 256 := Nat.mod_lt _ (by decide)
theorem adVal_octets {a : Nat} (ha : a < 2 ^ 32) : adVal [octet a 0, octet a 1, octet a 2, octet a 3] = a := by
  unfold adVal octet
  simp only [List.foldl_cons, List.foldl_nil, Nat.mul_zero, Nat.mul_one, Nat.sub_zero, Nat.reduceMul, Nat.reduceSub, Nat.zero_mul, Nat.zero_add, Nat.reducePow, Nat.div_one]
  omega
theorem par_fmt {a : Nat} (ha : a < 2 ^ 32) : parB (fmtB a) = some a := by
  have hne := fun i => dig_ne (n := octet a i) (by have := octet_lt a i; omega) (c := 46) (by decide)
  unfold parB fmtB
  rw [splitB_app 46 _ _ (hne 0), splitB_app 46 _ _ (hne 1), splitB_app 46 _ _ (hne 2), splitB_none 46 _ (hne 3)]
  have hd := fun i => numB_dig (m := 255) (n := octet a i) (by decide) (by have := octet_lt a i; omega)
  simp only [hd, adVal_octets ha]
theorem fmt_noslash {a : Nat} : ∀ x ∈ fmtB a, x ≠ 47 := by
  have hne := fun i => dig_ne (n := octet a i) (by have := octet_lt a i; omega) (c := 47) (by decide)
  intro x hx
  unfold fmtB at hx
  simp only [List.mem_append, List.mem_cons] at hx
  rcases hx with h | h | h | h | h | h | h
  · exact hne 0 x h
  · subst h; decide
  · exact hne 1 x h
  · subst h; decide
  · exact hne 2 x h
  · subst h; decide
  · exact hne 3 x h
/-- the prefix that a text means -/
def parP (s : List UInt8) : Option Prf :=
  match splitB 47 s with
  | [p, q] => match parB p, numB q 32 with
    | some a, some n => if vld ⟨a, n⟩ = true then some ⟨a, n⟩ else none
    | _, _ => none
  | _ => none
def fmtP (p : Prf) : List UInt8 := if vld p = true then fmtB p.addr ++ 47 :: Lib.decDigits p.len.toNat else []
theorem parP_fmtP {p : Prf} (hp : p.addr < 2 ^ 32) (hv : vld p = true) : parP (fmtP p) = some p := by
  obtain ⟨h1, h2, h3⟩ := vld_iff.1 hv
  have hne := dig_ne (n := p.len.toNat) (by omega) (c := 47) (by decide)
  unfold parP fmtP
  rw [if_pos hv, splitB_app 47 _ _ fmt_noslash, splitB_none 47 _ hne]
  simp only [par_fmt hp, numB_dig (m := 32) (n := p.len.toNat) (by decide) (by omega)]
  have e : (⟨p.addr, (p.len.toNat : Int)⟩ : Prf) = p := by
    cases p with
    | mk a l =>
      simp only [Prf.mk.injEq, true_and]
      exact Int.toNat_of_nonneg h1
  rw [e, if_pos hv]
theorem parB_lt {s : List UInt8} {a : Nat} (h : parB s = some a) : a < 2 ^ 32 := by
  unfold parB at h
  split at h
  · split at h
    · rename_i a1 b1 c1 d1 e1 e2 e3 e4
      simp only [Option.some.injEq] at h
      have := (numB_some e1).1
      have := (numB_some e2).1
      have := (numB_some e3).1
      have := (numB_some e4).1
      subst h
      unfold adVal
      simp only [List.foldl_cons, List.foldl_nil]
      omega
    · cases h
  · cases h
end Go.Proofs.YtceacooambpkdaaDoor
