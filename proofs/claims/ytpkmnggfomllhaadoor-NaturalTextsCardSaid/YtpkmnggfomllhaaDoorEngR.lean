/- The evaluator, part R: large regions that draw their order: what may come when, reckoned by numbers. -/
import Derived.Test.YtpkmnggfomllhaaDoorEngP
set_option linter.unusedSimpArgs false
set_option linter.unusedVariables false
namespace Go.Proofs.YtpkmnggfomllhaaDoor
namespace Eng
structure Row where
  need : Nat
  dst : Nat
  looks : Nat
  kind : Nat
  deriving DecidableEq
def maskL : List Nat → Nat
  | [] => 0
  | t :: l => (1 <<< t) ||| maskL l
theorem maskL_bit : ∀ (l : List Nat) (t : Nat), (maskL l).testBit t = l.contains t
  | [], t => by simp [maskL]
  | u :: l, t => by
    rw [maskL, Nat.testBit_or, maskL_bit l t, List.contains_cons]
    congr 1
    rw [Nat.one_shiftLeft, Nat.testBit_two_pow]
    by_cases h : u = t
    · subst h; simp
    · simp [h, Ne.symm h]
def kindB (o : Oper) : Nat := bif wless o.op then 0 else bif loadOp o.op then 1 else 2
def dstOf (o : Oper) : Nat := match o.dst with | some d => d + 1 | none => 0
def rowOf (md : Region.Mode) (ops : Array Oper) (o : Oper) : Row := ⟨maskL ((o.after.toList.filter (Region.binds md)).map (·.on)), dstOf o, maskL (o.looksAt ops), kindB o⟩
def tabOk (md : Region.Mode) (ops : Array Oper) (n : Nat) : List Oper → List Row → Bool
  | [], [] => true
  | o :: l, r :: T => Nat.beq (maskL ((o.after.toList.filter (Region.binds md)).map (·.on))) r.need && Nat.beq (dstOf o) r.dst && Nat.beq (maskL (o.looksAt ops)) r.looks && Nat.beq (kindB o) r.kind && Nat.blt r.need (2 ^ n) && tabOk md ops n l T
  | _, _ => false
theorem tabOk_get {md : Region.Mode} {ops : Array Oper} {n : Nat} : ∀ (l : List Oper) (T : List Row), tabOk md ops n l T = true → T.length = l.length ∧ ∀ (j : Nat) (o : Oper), l[j]? = some o → T[j]? = some (rowOf md ops o) ∧ (rowOf md ops o).need < 2 ^ n
  | [], [], _ => ⟨rfl, fun j o h => by simp at h⟩
  | [], _ :: _, h => by simp [tabOk] at h
  | _ :: _, [], h => by simp [tabOk] at h
  | o :: l, r :: T, h => by
    simp only [tabOk, Bool.and_eq_true, Nat.beq_eq, Nat.blt_eq] at h
    obtain ⟨⟨⟨⟨⟨h1, h2⟩, h3⟩, h4⟩, h5⟩, h6⟩ := h
    obtain ⟨g1, g2⟩ := tabOk_get l T h6
    refine ⟨by simp [g1], fun j o' hj => ?_⟩
    cases j with
    | zero =>
      simp only [List.getElem?_cons_zero, Option.some.injEq] at hj ⊢
      subst hj
      have e : r = rowOf md ops o := by cases r; simp only at *; subst h1; subst h2; subst h3; subst h4; rfl
      rw [← e]
      exact ⟨rfl, h5⟩
    | succ j =>
      simp only [List.getElem?_cons_succ] at hj ⊢
      exact g2 j o' hj
def lst (n mask : Nat) : Array Bool := ((List.range n).map mask.testBit).toArray
theorem lst_getD (n mask j : Nat) (d : Bool) : (lst n mask).getD j d = if j < n then mask.testBit j else d := by
  unfold lst
  by_cases h : j < n
  · simp [Array.getD, h]
  · simp [Array.getD, h]
theorem lst_set {n mask k : Nat} : (lst n mask).setIfInBounds k true = lst n (mask ||| (1 <<< k)) := by
  apply Array.ext'
  unfold lst
  simp only [List.setIfInBounds_toArray]
  apply List.ext_getElem?
  intro j
  rw [List.getElem?_set]
  simp only [List.length_map, List.length_range, List.getElem?_map]
  by_cases hj : j < n
  · rw [List.getElem?_range hj]
    by_cases e : k = j
    · subst e
      rw [if_pos rfl, if_pos hj, Option.map_some, Nat.testBit_or, Nat.one_shiftLeft, Nat.testBit_two_pow]
      simp
    · rw [if_neg e, Option.map_some, Option.map_some, Nat.testBit_or, Nat.one_shiftLeft, Nat.testBit_two_pow]
      simp [e]
  · rw [List.getElem?_eq_none (by simp; omega)]
    split
    · subst_vars; simp [hj]
    · rfl
theorem lst_zero (n : Nat) : lst n 0 = Array.replicate n false := by
  apply Array.ext'
  unfold lst
  apply List.ext_getElem?
  intro j
  simp only [List.getElem?_map, Array.toList_replicate, List.getElem?_replicate]
  by_cases hj : j < n
  · rw [List.getElem?_range hj]; simp [hj]
  · rw [List.getElem?_eq_none (by simp; omega)]; simp [hj]
def allI (f : Nat → Row → Bool) : Nat → List Row → Bool
  | _, [] => true
  | i, r :: T => f i r && allI f (i + 1) T
theorem allI_get {f : Nat → Row → Bool} : ∀ (T : List Row) (i : Nat), allI f i T = true → ∀ (j : Nat) (r : Row), T[j]? = some r → f (i + j) r = true
  | [], i, h, j, r, hj => by simp at hj
  | r :: T, i, h, j, r', hj => by
    simp only [allI, Bool.and_eq_true] at h
    cases j with
    | zero => simp only [List.getElem?_cons_zero, Option.some.injEq] at hj; subst hj; exact h.1
    | succ j =>
      simp only [List.getElem?_cons_succ] at hj
      have := allI_get T (i + 1) h.2 j r' hj
      rwa [Nat.add_right_comm, Nat.add_assoc] at this
def readyR (mask i : Nat) (r : Row) : Bool := !mask.testBit i && Nat.beq (r.need &&& mask) r.need
def apartR (x y : Row) : Bool := (Nat.beq x.dst 0 || (!y.looks.testBit (x.dst - 1) && !Nat.beq y.dst x.dst)) && (Nat.beq y.dst 0 || !x.looks.testBit (y.dst - 1))
def freeR (T : List Row) (mask k : Nat) (rk : Row) : Bool := allI (fun j r => Nat.beq j k || mask.testBit j || r.need.testBit k || apartR rk r) 0 T
def blkR (k : Nat) : Nat → List Row → Nat → Nat
  | _, [], acc => acc
  | j, r :: T, acc => blkR k (j + 1) T (bif Nat.beq j k || !Nat.beq (r.need &&& acc) 0 then acc ||| (1 <<< j) else acc)
def blkC (T : List Row) (k B mask W : Nat) : Bool :=
  allI (fun j r => (!B.testBit j || ((Nat.beq j k || !Nat.beq (r.need &&& B) 0) && !mask.testBit j)) && (Nat.beq j k || mask.testBit j || B.testBit j || W.testBit j)) 0 T && Nat.blt B (2 ^ T.length)
def chkX (T : List Row) (W : Nat) : List Nat → Nat → (Nat → Bool) → Bool
  | [], mask, f => f mask
  | k :: r, mask, f => (match T[k]? with | some rk => readyR mask k rk && freeR T mask k rk && W.testBit k && (Nat.beq rk.kind 0 || (Nat.beq rk.kind 1 && blkC T k (blkR k 0 T 0) mask W)) | none => false) && chkX T W r (mask ||| (1 <<< k)) f
def chkB (T : List Row) : List (Nat × Bool) → Nat → Bool
  | [], mask => allI (fun j r => !readyR mask j r) 0 T
  | (k, false) :: r, mask => (match T[k]? with | some rk => readyR mask k rk | none => false) && allI (fun j r => Nat.beq j k || !readyR mask j r) 0 T && chkB T r (mask ||| (1 <<< k))
  | (k, true) :: r, mask => (match T[k]? with | some rk => readyR mask k rk && Nat.beq rk.kind 0 && freeR T mask k rk | none => false) && chkB T r (mask ||| (1 <<< k))
def chkR (T : List Row) (X : List Nat) (B : List (Nat × Bool)) (ws : List Nat) : Bool := chkX T (maskL X ||| maskL ws) X 0 fun mask => chkB T B mask
def keepC (l : List Oper) (T : List Row) (X : List Nat) (B : List (Nat × Bool)) (ws : List Nat) : Bool := Region.noSelect l.toArray && tabOk .any l.toArray l.length l T && chkR T X B ws && Nat.beq (X.length + B.length) l.length
def BT.seq : List (Nat × Bool) → BT
  | [] => .done
  | (i, false) :: r => .one i (BT.seq r)
  | (i, true) :: r => .free i (BT.seq r)
theorem btseq_nil : BT.seq [] = .done := rfl
theorem btseq_cons (i : Nat) (r : List (Nat × Bool)) : BT.seq ((i, false) :: r) = .one i (BT.seq r) := rfl
theorem btseq_free (i : Nat) (r : List (Nat × Bool)) : BT.seq ((i, true) :: r) = .free i (BT.seq r) := rfl
section
variable {l : List Oper} {T : List Row} {mask : Nat}
theorem ready_iff (ht : tabOk .any l.toArray l.length l T = true) {j : Nat} {r : Row} (hr : T[j]? = some r) : (j ∈ Region.ready .any l.toArray (lst l.length mask)) ↔ readyR mask j r = true := by
  obtain ⟨hlen, hget⟩ := tabOk_get l T ht
  have hj : j < l.length := by rw [← hlen]; exact (List.getElem?_eq_some_iff.1 hr).1
  obtain ⟨h1, h2⟩ := hget j l[j] (by simp [hj])
  rw [hr, Option.some.injEq] at h1
  subst h1
  rw [mem_ready, lst_getD, if_pos hj]
  unfold readyR
  simp only [Bool.and_eq_true, Bool.not_eq_true', Nat.beq_eq]
  refine and_congr Iff.rfl ?_
  have hbit : ∀ t, (rowOf .any l.toArray l[j]).need.testBit t = true ↔ ∃ e ∈ l[j].after, Region.binds .any e = true ∧ e.on = t := by
    intro t
    simp only [rowOf, maskL_bit, List.contains_iff_mem, List.mem_map, List.mem_filter, Array.mem_toList_iff]
    constructor
    · rintro ⟨e, ⟨h1, h2⟩, h3⟩; exact ⟨e, h1, h2, h3⟩
    · rintro ⟨e, h1, h2, h3⟩; exact ⟨e, ⟨h1, h2⟩, h3⟩
  have hlt : ∀ t, (rowOf .any l.toArray l[j]).need.testBit t = true → t < l.length := by
    intro t ht
    rcases Nat.lt_or_ge t l.length with h | h
    · exact h
    · have := Nat.testBit_lt_two_pow (Nat.lt_of_lt_of_le h2 (Nat.pow_le_pow_right (by omega) h))
      rw [this] at ht; cases ht
  constructor
  · rintro ⟨o, ho, hall⟩
    have ho' : o = l[j] := by simpa [hj] using ho.symm
    subst ho'
    apply Nat.eq_of_testBit_eq
    intro t
    rw [Nat.testBit_and]
    cases hb : (rowOf .any l.toArray l[j]).need.testBit t with
    | false => rfl
    | true =>
      obtain ⟨e, he, hbd, hon⟩ := (hbit t).1 hb
      have := hall e he hbd
      rw [lst_getD, hon, if_pos (hlt t hb)] at this
      rw [this]; rfl
  · intro h
    refine ⟨l[j], by simp [hj], fun e he hbd => ?_⟩
    have hb := (hbit e.on).2 ⟨e, he, hbd, rfl⟩
    have h9 : ((rowOf .any l.toArray l[j]).need &&& mask).testBit e.on = true := by rw [h]; exact hb
    rw [Nat.testBit_and, hb, Bool.true_and] at h9
    rw [lst_getD, if_pos (hlt _ hb)]
    exact h9
theorem apart_of {x y : Oper} {ops : Array Oper} (h : apartR (rowOf .any ops x) (rowOf .any ops y) = true) : x.apart ops y = true := by
  unfold apartR rowOf dstOf at h
  unfold Oper.apart
  simp only [maskL_bit, Bool.and_eq_true, Bool.or_eq_true, Nat.beq_eq, Bool.not_eq_true'] at h
  obtain ⟨h1, h2⟩ := h
  simp only [Bool.and_eq_true]
  refine ⟨?_, ?_⟩
  · cases hx : x.dst with
    | none => rfl
    | some d =>
      rw [hx] at h1
      simp only [Nat.add_sub_cancel] at h1
      rcases h1 with h1 | ⟨h1, h3⟩
      · omega
      · simp only [Bool.and_eq_true, Bool.not_eq_true', bne_iff_ne]
        refine ⟨h1, fun e => ?_⟩
        rw [e] at h3
        simp at h3
  · cases hy : y.dst with
    | none => rfl
    | some d =>
      rw [hy] at h2
      simp only [Nat.add_sub_cancel] at h2
      rcases h2 with h2 | h2
      · omega
      · simpa using h2
theorem row_at (ht : tabOk .any l.toArray l.length l T = true) {j : Nat} {o : Oper} (ho : l.toArray[j]? = some o) : T[j]? = some (rowOf .any l.toArray o) := ((tabOk_get l T ht).2 j o (by simpa using ho)).1
theorem need_bit {ops : Array Oper} {o : Oper} {t : Nat} : (rowOf .any ops o).need.testBit t = true ↔ ∃ e ∈ o.after, Region.binds .any e = true ∧ e.on = t := by
  simp only [rowOf, maskL_bit, List.contains_iff_mem, List.mem_map, List.mem_filter, Array.mem_toList_iff]
  constructor
  · rintro ⟨e, ⟨h1, h2⟩, h3⟩; exact ⟨e, h1, h2, h3⟩
  · rintro ⟨e, h1, h2, h3⟩; exact ⟨e, ⟨h1, h2⟩, h3⟩
theorem free_of (ht : tabOk .any l.toArray l.length l T = true) {k : Nat} {o : Oper} (ho : l.toArray[k]? = some o) (h : freeR T mask k (rowOf .any l.toArray o) = true) : Region.free .any l.toArray (lst l.length mask) k = true := by
  unfold Region.free
  rw [ho]
  refine List.all_eq_true.2 fun j hj => ?_
  have hj' : j < l.length := by simpa using hj
  have hoj : l.toArray[j]? = some l[j] := by simp [hj']
  have h1 := allI_get T 0 h j _ (row_at ht hoj)
  rw [Nat.zero_add] at h1
  simp only [Bool.or_eq_true, Nat.beq_eq] at h1
  simp only [hoj, Bool.or_eq_true, beq_iff_eq, lst_getD, if_pos hj']
  rcases h1 with ((h1 | h1) | h1) | h1
  · exact .inl (.inl h1)
  · exact .inl (.inr h1)
  · obtain ⟨e, he, hb, hon⟩ := need_bit.1 h1
    refine .inr (.inl (Array.any_eq_true'.2 ⟨e, he, by simp [hb, hon]⟩))
  · exact .inr (.inr (apart_of h1))
theorem op_at (ht : tabOk .any l.toArray l.length l T = true) {k : Nat} {r : Row} (hr : T[k]? = some r) : ∃ o, l.toArray[k]? = some o ∧ r = rowOf .any l.toArray o := by
  obtain ⟨hlen, hget⟩ := tabOk_get l T ht
  have hj : k < l.length := by rw [← hlen]; exact (List.getElem?_eq_some_iff.1 hr).1
  refine ⟨l[k], by simp [hj], ?_⟩
  have := (hget k l[k] (by simp [hj])).1
  rw [hr, Option.some.injEq] at this
  exact this
theorem filter_one {p : Nat → Bool} {k : Nat} : ∀ n, k < n → (∀ j, j < n → (p j = true ↔ j = k)) → (List.range n).filter p = [k]
  | 0, h, _ => by omega
  | n + 1, h, hp => by
    rw [List.range_succ, List.filter_append]
    by_cases e : k = n
    · subst e
      have : (List.range k).filter p = [] := List.filter_eq_nil_iff.2 fun j hj => fun h9 => by
        have hj' : j < k := by simpa using hj
        have := (hp j (by omega)).1 h9
        omega
      rw [this]
      simp [(hp k (by omega)).2 rfl]
    · rw [filter_one n (by omega) fun j hj => hp j (by omega)]
      have : p n = false := by
        cases h9 : p n with
        | false => rfl
        | true => have := (hp n (by omega)).1 h9; omega
      simp [this]
theorem ready_one (ht : tabOk .any l.toArray l.length l T = true) {k : Nat} {rk : Row} (hk : T[k]? = some rk) (h1 : readyR mask k rk = true) (h2 : allI (fun j r => Nat.beq j k || !readyR mask j r) 0 T = true) : Region.ready .any l.toArray (lst l.length mask) = [k] := by
  obtain ⟨hlen, _⟩ := tabOk_get l T ht
  have hk' : k < l.length := by rw [← hlen]; exact (List.getElem?_eq_some_iff.1 hk).1
  have hm : ∀ j, j < l.length → (j ∈ Region.ready .any l.toArray (lst l.length mask) ↔ j = k) := by
    intro j hj
    have hrj : T[j]? = some T[j] := by simp [hlen, hj]
    rw [ready_iff ht hrj]
    constructor
    · intro h9
      have := allI_get T 0 h2 j _ hrj
      rw [Nat.zero_add] at this
      simp only [Bool.or_eq_true, Nat.beq_eq, Bool.not_eq_true'] at this
      rcases this with this | this
      · exact this
      · rw [this] at h9; cases h9
    · rintro rfl
      rw [hk] at hrj
      simp only [Option.some.injEq] at hrj
      rw [← hrj]
      exact h1
  unfold Region.ready at hm ⊢
  refine filter_one _ (by simpa using hk') fun j hj => ?_
  have := hm j (by simpa using hj)
  rw [List.mem_filter] at this
  simp only [List.mem_range] at this
  constructor
  · intro h9; exact this.1 ⟨hj, h9⟩
  · intro h9; exact (this.2 h9).2
theorem ready_none (ht : tabOk .any l.toArray l.length l T = true) (h2 : allI (fun j r => !readyR mask j r) 0 T = true) : Region.ready .any l.toArray (lst l.length mask) = [] := by
  obtain ⟨hlen, _⟩ := tabOk_get l T ht
  refine List.eq_nil_iff_forall_not_mem.2 fun j hj => ?_
  have hj' : j < l.length := by
    obtain ⟨_, o, ho, _⟩ := mem_ready.1 hj
    simpa using (Array.getElem?_eq_some_iff.1 ho).1
  have hrj : T[j]? = some T[j] := by simp [hlen, hj']
  have := allI_get T 0 h2 j _ hrj
  rw [Nat.zero_add, (ready_iff ht hrj).1 hj] at this
  cases this
theorem kind0 {o : Oper} (h : kindB o = 0) : wless o.op = true := by
  unfold kindB at h
  cases hw : wless o.op with
  | true => rfl
  | false =>
    rw [hw] at h
    cases hl : loadOp o.op <;> rw [hl] at h <;> cases h
theorem chkB_ok (ht : tabOk .any l.toArray l.length l T = true) : ∀ (B : List (Nat × Bool)) (mask : Nat), chkB T B mask = true → btGo .any l.toArray (BT.seq B) true B.length (lst l.length mask) = true
  | [], mask, h => by
    simp only [BT.seq, btGo, List.length_nil, beq_self_eq_true, Bool.true_and]
    rw [ready_none ht h]; rfl
  | (k, true) :: r, mask, h => by
    simp only [chkB, Bool.and_eq_true] at h
    obtain ⟨h1, h3⟩ := h
    cases hk : T[k]? with
    | none => rw [hk] at h1; cases h1
    | some rk =>
      rw [hk] at h1
      obtain ⟨o, ho, rfl⟩ := op_at ht hk
      simp only [Bool.and_eq_true, Nat.beq_eq] at h1
      obtain ⟨⟨h1, h4⟩, h5⟩ := h1
      simp only [BT.seq, btGo, List.length_cons, Bool.and_eq_true]
      refine ⟨⟨⟨by simpa using (ready_iff ht hk).2 h1, by rw [ho]; exact kind0 h4⟩, free_of ht ho h5⟩, ?_⟩
      rw [lst_set]
      exact chkB_ok ht r _ h3
  | (k, false) :: r, mask, h => by
    simp only [chkB, Bool.and_eq_true] at h
    obtain ⟨⟨h1, h2⟩, h3⟩ := h
    cases hk : T[k]? with
    | none => rw [hk] at h1; cases h1
    | some rk =>
      rw [hk] at h1
      obtain ⟨o, ho, rfl⟩ := op_at ht hk
      simp only [BT.seq, btGo, List.length_cons, Bool.and_eq_true, beq_iff_eq]
      refine ⟨⟨ready_one ht hk h1 h2, by rw [ho]; rfl⟩, ?_⟩
      rw [lst_set]
      exact chkB_ok ht r _ h3
theorem kind1 {o : Oper} (h : kindB o = 1) : loadOp o.op = true := by
  unfold kindB at h
  cases hw : wless o.op with
  | true => rw [hw] at h; cases h
  | false =>
    rw [hw] at h
    cases hl : loadOp o.op with
    | false => rw [hl] at h; cases h
    | true => rfl
theorem blkC_ok (ht : tabOk .any l.toArray l.length l T = true) (W : Nat → Bool) (Wm : Nat) (hW : ∀ j, Wm.testBit j = true → W j = true) {k : Nat} (h6 : blkC T k (blkR k 0 T 0) mask Wm = true) :
    ∃ Bl : Nat → Bool, (∀ j oj, l.toArray[j]? = some oj → Bl j = true → j ≠ k → ∃ e ∈ oj.after, Region.binds .any e = true ∧ Bl e.on = true) ∧ (∀ j, Bl j = true → (lst l.length mask).getD j false = false) ∧
      ∀ j, j < l.toArray.size → j = k ∨ (lst l.length mask).getD j true = true ∨ Bl j = true ∨ W j = true := by
  refine ⟨fun j => (blkR k 0 T 0).testBit j, ?_, ?_, ?_⟩
  · intro j oj hoj hb hne
    simp only [blkC, Bool.and_eq_true] at h6
    have h9 := allI_get T 0 h6.1 j _ (row_at ht hoj)
    rw [Nat.zero_add] at h9
    simp only [hb, Bool.and_eq_true, Bool.or_eq_true, Bool.not_true, Bool.false_eq_true, false_or, Nat.beq_eq, hne, Bool.not_eq_true'] at h9
    have hne0 : (rowOf .any l.toArray oj).need &&& blkR k 0 T 0 ≠ 0 := by
      intro h0
      have := h9.1.1
      rw [h0] at this
      simp at this
    obtain ⟨t, ht'⟩ := Nat.exists_testBit_of_ne_zero hne0
    rw [Nat.testBit_and, Bool.and_eq_true] at ht'
    obtain ⟨e, he, hbd, hon⟩ := need_bit.1 ht'.1
    exact ⟨e, he, hbd, by rw [hon]; exact ht'.2⟩
  · intro j hb
    replace hb : (blkR k 0 T 0).testBit j = true := hb
    simp only [blkC, Bool.and_eq_true, Nat.blt_eq] at h6
    obtain ⟨hlen, _⟩ := tabOk_get l T ht
    have hj : j < l.length := by
      rcases Nat.lt_or_ge j l.length with h | h
      · exact h
      · have := Nat.testBit_lt_two_pow (Nat.lt_of_lt_of_le h6.2 (Nat.pow_le_pow_right (by omega) (by omega : T.length ≤ j)))
        rw [this] at hb; cases hb
    have hrj : T[j]? = some T[j] := by simp [hlen, hj]
    have h9 := allI_get T 0 h6.1 j _ hrj
    rw [Nat.zero_add] at h9
    rw [lst_getD, if_pos hj]
    simp only [hb, Bool.and_eq_true, Bool.or_eq_true, Bool.not_true, Bool.false_eq_true, false_or, Bool.not_eq_true'] at h9
    exact h9.1.2
  · intro j hj
    have hj' : j < l.length := by simpa using hj
    simp only [blkC, Bool.and_eq_true] at h6
    obtain ⟨hlen, _⟩ := tabOk_get l T ht
    have hrj : T[j]? = some T[j] := by simp [hlen, hj']
    have h9 := allI_get T 0 h6.1 j _ hrj
    rw [Nat.zero_add] at h9
    simp only [Bool.and_eq_true, Bool.or_eq_true, Nat.beq_eq] at h9
    rw [lst_getD, if_pos hj']
    rcases h9.2 with ((h9 | h9) | h9) | h9
    · exact .inl h9
    · exact .inr (.inl h9)
    · exact .inr (.inr (.inl h9))
    · exact .inr (.inr (.inr (hW j h9)))
theorem chkX_ok (ht : tabOk .any l.toArray l.length l T = true) (W : Nat → Bool) (Wm : Nat) (hW : ∀ j, Wm.testBit j = true → W j = true) (bt : BT) (m : Nat) (f : Nat → Bool) (hf : ∀ mask, f mask = true → btGo .any l.toArray bt true m (lst l.length mask) = true) : ∀ (X : List Nat) (mask : Nat), chkX T Wm X mask f = true → PreP .any l.toArray bt m W X (lst l.length mask)
  | [], mask, h => hf mask h
  | k :: r, mask, h => by
    simp only [chkX, Bool.and_eq_true] at h
    obtain ⟨h1, h3⟩ := h
    cases hk : T[k]? with
    | none => rw [hk] at h1; cases h1
    | some rk =>
      rw [hk] at h1
      obtain ⟨o, ho, rfl⟩ := op_at ht hk
      simp only [Bool.and_eq_true, Bool.or_eq_true, Nat.beq_eq] at h1
      obtain ⟨⟨⟨h1, h5⟩, h4⟩, h6⟩ := h1
      refine ⟨(ready_iff ht hk).2 h1, free_of ht ho h5, hW k h4, ⟨o, ho, h6.imp kind0 fun h9 => ⟨kind1 h9.1, blkC_ok ht W Wm hW h9.2⟩⟩, ?_⟩
      rw [lst_set]
      exact chkX_ok ht W Wm hW bt m f hf r _ h3
end
section
variable {P : Program} {F : Frm} {l : List Oper} {T : List Row} {Q : Exit → Act → World → Prop} {k : St → Prop} {R0 : Nat → Prop} {w0 : Org}
theorem Sat.region_rows {K : Exit → St → Prop} {st : St} {id : Nat} {l : List Oper} (T : List Row) (X : List Nat) (B : List (Nat × Bool)) (ws : List Nat) (hm : P.follows .mixedOrders = true) (hB : keepC l T X B ws = true) (hpan : ∀ c st, ¬ K (.panic c) st)
    (h : ∀ k : St → Prop, (∀ st', K .normal st' → k st') → WO P F (l.map (·.dst)) (X.map fun i => l.getD i default) st fun st2 => WBT P F (l.map (·.dst)) l st.own (keepW X ws) true (BT.seq B) st2 k) : Sat P F (.region id l.toArray true) st K := by
  rintro R0 w0 a w ⟨ob, R, hr⟩
  simp only [keepC, chkR, Bool.and_eq_true, Nat.beq_eq] at hB
  obtain ⟨⟨⟨hsel, ht⟩, hc⟩, hlen⟩ := hB
  have hdrew : Grown w { w with drawn := w.drawn + 1 } := ⟨rfl, rfl, rfl, Nat.le_refl _, fun _ _ _ => rfl⟩
  refine wp_region_any hm ?_
  have hpan' : ∀ c a w, ¬ (fun e a' w' => ∃ st', K e st' ∧ Rel F R0 w0 st' a' w') (.panic c) a w := fun c a w ⟨st', hk, _⟩ => hpan c st' hk
  have := keep_sound (P := P) (F := F) (R0 := R0) (w0 := w0) (Q := fun e a' w' => ∃ st', K e st' ∧ Rel F R0 w0 st' a' w') (k := K .normal) hpan' hsel X ws (BT.seq B) B.length (lst l.length 0) st a { w with drawn := w.drawn + 1 }
    (chkX_ok ht (keepW X ws) _ (fun j hj => by rw [Nat.testBit_or, maskL_bit, maskL_bit] at hj; exact hj) (BT.seq B) B.length _ (fun mask hb => chkB_ok ht B mask hb) X 0 hc)
    (by simpa using h _ fun _ h => h) ⟨ob, R, hr.grown hdrew⟩ (fun st' a' w' hk hr' => ⟨st', hk, hr'⟩)
  rw [hlen, lst_zero] at this
  simpa using this
theorem Sat.know_nil {c : Code} {K : Exit → St → Prop} {n : Nat} {env : List (Nat × SV)} {own : List Own} (t : Nat) {a : Option Addr} {len cap sz : Nat} {rd : Nat → Nat → SV} (hl : look env t = some (.sl a len cap sz rd)) (h : (a = none → len = 0) → Sat P F c ⟨n, env, own⟩ K) : Sat P F c ⟨n, env, own⟩ K := by
  rintro R0 w0 ac w ⟨ob, R, hr⟩
  refine h ?_ R0 w0 ac w ⟨ob, R, hr⟩
  rintro rfl
  rcases (hr.env t _ hl).2.2.2 with h | ⟨blk, off, h, _⟩
  · exact h
  · cases h
theorem Sat.know_row {c : Code} {K : Exit → St → Prop} {n : Nat} {env : List (Nat × SV)} {own : List Own} (id : Nat) {a : Option Addr} {e len cap sz : Nat} {rd : Nat → Nat → SV} (hl : own[id]? = some (.row a e len cap sz rd)) (h : len ≤ cap → Sat P F c ⟨n, env, own⟩ K) : Sat P F c ⟨n, env, own⟩ K := by
  rintro R0 w0 ac w ⟨ob, R, hr⟩
  refine h ?_ R0 w0 ac w ⟨ob, R, hr⟩
  rcases (hr.own _ _ hl).1.2 with ⟨hv, h0⟩ | ⟨g, cap', cur, hv, _, _, hn, _⟩
  · simp only [Value.slice.injEq] at hv; omega
  · simp only [Value.slice.injEq] at hv; omega
theorem Sat.adoptBox {c : Code} {K : Exit → St → Prop} {n : Nat} {env : List (Nat × SV)} {own : List Own} (id j : Nat) (e sz : Nat) (rd : Nat → Nat → SV) {blk ty sz0 : Nat} {cs : List SV} {rd0 : Nat → Nat → SV} (hl : own[id]? = some (.box blk ty cs)) (hj : cs[j]? = some (.sl none 0 0 sz0 rd0))
    (h : Sat P F c ⟨n, env, own.set id (.box blk ty (cs.set j (.os own.length none 0 0))) ++ [.row none e 0 0 sz rd]⟩ K) : Sat P F c ⟨n, env, own⟩ K := by
  rintro R0 w0 a w ⟨ob, R, hr⟩
  refine h R0 w0 a w ⟨ob, R, ?_⟩
  have hbox := hr.own id _ hl
  have hidl : id < own.length := (List.getElem?_eq_some_iff.1 hl).1
  have hjl : j < cs.length := (List.getElem?_eq_some_iff.1 hj).1
  have hden : (cs.set j (.os own.length none 0 0)).map SV.den = cs.map SV.den := by
    apply List.ext_getElem?
    intro q
    rw [List.getElem?_map, List.getElem?_map, List.getElem?_set]
    by_cases e : j = q
    · subst e
      rw [if_pos rfl, if_pos hjl, hj]; rfl
    · rw [if_neg e]
  have hok : (Own.box blk ty (cs.set j (.os own.length none 0 0))).ok R ob w := by
    refine ⟨hbox.1, hbox.2.1, by rw [hden]; exact hbox.2.2.1, fun x hx => ?_⟩
    rcases List.mem_or_eq_of_mem_set hx with hx | rfl
    · exact hbox.2.2.2 x hx
    · exact ⟨rfl, trivial⟩
  have h1 : RelR F R0 w0 ob R ⟨n, env, own.set id (.box blk ty (cs.set j (.os own.length none 0 0)))⟩ a w := by
    refine ⟨hr.defers, hr.env, hr.size, ?_, ?_, hr.evo, hr.inv, hr.obM, ?_, hr.obw, hr.rr, hr.r0⟩
    · intro i x hx
      rw [List.getElem?_set] at hx
      split at hx
      · simp only [hidl, if_true, Option.some.injEq] at hx
        subst hx
        exact hok
      · exact hr.own i x hx
    · intro i k x y hik hx hy b hb1 hb2
      rw [List.getElem?_set] at hx hy
      split at hx <;> split at hy
      · omega
      · rename_i e1 _
        subst e1
        simp only [hidl, if_true, Option.some.injEq] at hx
        subst hx
        exact hr.dist id k _ y hik hl hy b hb1 hb2
      · rename_i _ e1
        subst e1
        simp only [hidl, if_true, Option.some.injEq] at hy
        subst hy
        exact hr.dist i id x _ hik hx hl b hb1 hb2
      · exact hr.dist i k x y hik hx hy b hb1 hb2
    · exact gb_set (m := w0.w.heap.size) (Nat.le_refl _) hr.gb hl fun b hb => .inl hb
  exact h1.newRow (o := .row none e 0 0 sz rd) (w' := w) (grown_refl w none) (fun b hb => by cases hb) ⟨by simpa [cellsOf] using World.ownsRow_nil w _ e sz, (fun g hg => by cases hg), (fun i j hi => absurd hi (Nat.not_lt_zero _))⟩
theorem sim_nil (sz sz' : Nat) (rd rd' : Nat → Nat → SV) : sim (.sl none 0 0 sz rd) (.sl none 0 0 sz' rd') := ⟨rfl, fun R w h => ⟨h.1, h.2.1, .inl rfl⟩⟩
theorem sim_tup2 {s s' t t' : SV} (h0 : sim s s') (h1 : sim t t') : sim (tupL [s, t]) (tupL [s', t']) := by
  refine ⟨?_, fun R w h j hj => ?_⟩
  · simp only [tupL, SV.den, List.length_cons, List.length_nil]
    have : (List.range (0 + 1 + 1)) = [0, 1] := rfl
    rw [this]
    simp only [List.map_cons, List.map_nil, List.getD_cons_zero, List.getD_cons_succ, h0.1, h1.1]
  · have hj' : j < 2 := hj
    rcases (show j = 0 ∨ j = 1 by omega) with rfl | rfl
    · exact h0.2 R w (h 0 (by simp))
    · exact h1.2 R w (h 1 (by simp))
theorem sim_bools (n : Nat) (l l' : List SV) (hl : l.length = n) (h : l.map roB = l') : sim (.agg n fun j => l.getD j default) (.agg n fun j => l'.getD j default) := by
  subst h
  have hg : ∀ j, j < n → (l.map roB).getD j default = roB (l.getD j default) := fun j hj => getD_map_lt (by omega)
  refine ⟨?_, fun R w h j hj => ?_⟩
  · simp only [SV.den]
    congr 2
    apply List.map_congr_left
    intro j hj
    rw [hg j (by simpa using hj), roB_den]
  · have this : (l.getD j default).ok R w := h j hj
    show (((l.map roB)).getD j default).ok R w
    rw [hg j hj]
    generalize l.getD j default = s at this ⊢
    cases s <;> first | exact this | trivial
theorem sim_agg2 {f g : Nat → SV} (h0 : sim (f 0) (g 0)) (h1 : sim (f 1) (g 1)) : sim (.agg 2 f) (.agg 2 g) := by
  refine ⟨?_, fun R w h j hj => ?_⟩
  · simp only [SV.den]
    have : (List.range 2) = [0, 1] := rfl
    rw [this]
    simp only [List.map_cons, List.map_nil, h0.1, h1.1]
  · rcases (show j = 0 ∨ j = 1 by omega) with rfl | rfl
    · exact h0.2 R w (h 0 (by omega))
    · exact h1.2 R w (h 1 (by omega))
theorem ContractN.toC {f : FuncId} {args : List SV} {post : Own → Prop} (h : ContractN F P f args post) : Contract F P f args (fun r => ∃ a ty len cap sz rd, r = .sl a len cap sz rd ∧ post (.row a ty len cap sz rd)) := by
  refine ⟨h.enters, fun R w hinv hargs hR => (h.calls R w hinv hargs hR).mono ?_⟩
  rintro e w' ⟨a, ty, len, cap, sz, rd, R', rfl, hpost, hRR, hR', ho, hevo, hinv'⟩
  refine ⟨.sl a len cap sz rd, rfl, ⟨a, ty, len, cap, sz, rd, rfl, hpost⟩, ?_, hevo, hinv'⟩
  refine SV.ok_mono (R := fun b => R' b ∨ (Own.row a ty len cap sz rd).blk = some b) (fun b hb => ?_) (fun _ _ => rfl) _ (row_sl ho (fun _ h => .inl h) fun b hb => .inr hb)
  rcases hb with hb | hb
  · exact hR' b hb
  · exact .inr ⟨(Own.blk_lt ho hb).1, (Own.blk_lt ho hb).2.1⟩
theorem Contract.same {f : FuncId} {args : List SV} {post post' : SV → Prop} (h : Contract F P f args post) (hp : ∀ r, post r → ∃ r', sim r r' ∧ post' r') : Contract F P f args post' := by
  refine ⟨h.enters, fun R w hinv hargs hR => (h.calls R w hinv hargs hR).mono ?_⟩
  rintro e w' ⟨r, rfl, hpost, hok, hevo, hinv'⟩
  obtain ⟨r', hs, hp'⟩ := hp r hpost
  exact ⟨r', by rw [hs.1], hp', hs.2 _ _ hok, hevo, hinv'⟩
end
end Eng
end Go.Proofs.YtpkmnggfomllhaaDoor
