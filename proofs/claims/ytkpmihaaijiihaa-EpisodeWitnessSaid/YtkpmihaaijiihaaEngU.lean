/- The evaluator, part U: regions that draw their order, by masks: any tree of orders. -/
import Derived.Test.YtkpmihaaijiihaaEngR
set_option linter.unusedSimpArgs false
set_option linter.unusedVariables false
namespace Go.Proofs.Ytkpmihaaijiihaa
namespace Eng
def inL (j : Nat) : List Nat → Bool
  | [] => false
  | i :: l => Nat.beq j i || inL j l
theorem inL_mem {j : Nat} : ∀ {l : List Nat}, inL j l = true → j ∈ l
  | i :: l, h => by
    simp only [inL, Bool.or_eq_true, Nat.beq_eq] at h
    rcases h with rfl | h
    · exact .head _
    · exact .tail _ (inL_mem h)
def chkBT (T : List Row) : BT → Bool → Nat → Nat → Bool
  | .done, _, m, mask => Nat.beq m 0 && allI (fun j r => !readyR mask j r) 0 T
  | .free k t, _, m + 1, mask => (match T[k]? with | some rk => readyR mask k rk && Nat.beq rk.kind 0 && freeR T mask k rk | none => false) && chkBT T t true m (mask ||| (1 <<< k))
  | .one k t, _, m + 1, mask => (match T[k]? with | some rk => readyR mask k rk | none => false) && allI (fun j r => Nat.beq j k || !readyR mask j r) 0 T && chkBT T t true m (mask ||| (1 <<< k))
  | .alt i t r, top, m + 1, mask => (!top || allI (fun j rr => !readyR mask j rr || inL j (i :: r.heads)) 0 T) && (match T[i]? with | some ri => readyR mask i ri | none => false) && chkBT T t true m (mask ||| (1 <<< i)) && chkBT T r false (m + 1) mask
  | .none, top, _, _ => !top
  | _, _, _, _ => false
section
variable {l : List Oper} {T : List Row} {mask : Nat}
theorem chkBT_ok (ht : tabOk .any l.toArray l.length l T = true) : ∀ (B : BT) (top : Bool) (m mask : Nat), chkBT T B top m mask = true → btGo .any l.toArray B top m (lst l.length mask) = true
  | .done, top, m, mask, h => by
    simp only [chkBT, Bool.and_eq_true, Nat.beq_eq] at h
    simp only [btGo, Bool.and_eq_true, beq_iff_eq]
    refine ⟨h.1, ?_⟩
    rw [ready_none ht h.2]; rfl
  | .free k t, top, 0, mask, h => by simp [chkBT] at h
  | .one k t, top, 0, mask, h => by simp [chkBT] at h
  | .alt i t r, top, 0, mask, h => by simp [chkBT] at h
  | .none, top, m, mask, h => by simpa [chkBT, btGo] using h
  | .free k t, top, m + 1, mask, h => by
    simp only [chkBT, Bool.and_eq_true] at h
    obtain ⟨h1, h3⟩ := h
    cases hk : T[k]? with
    | none => rw [hk] at h1; cases h1
    | some rk =>
      rw [hk] at h1
      obtain ⟨o, ho, rfl⟩ := op_at ht hk
      simp only [Bool.and_eq_true, Nat.beq_eq] at h1
      obtain ⟨⟨h1, h4⟩, h5⟩ := h1
      simp only [btGo, Bool.and_eq_true]
      refine ⟨⟨⟨by simpa using (ready_iff ht hk).2 h1, by rw [ho]; exact kind0 h4⟩, free_of ht ho h5⟩, ?_⟩
      rw [lst_set]
      exact chkBT_ok ht t _ _ _ h3
  | .one k t, top, m + 1, mask, h => by
    simp only [chkBT, Bool.and_eq_true] at h
    obtain ⟨⟨h1, h2⟩, h3⟩ := h
    cases hk : T[k]? with
    | none => rw [hk] at h1; cases h1
    | some rk =>
      rw [hk] at h1
      obtain ⟨o, ho, rfl⟩ := op_at ht hk
      simp only [btGo, Bool.and_eq_true, beq_iff_eq]
      refine ⟨⟨ready_one ht hk h1 h2, by rw [ho]; rfl⟩, ?_⟩
      rw [lst_set]
      exact chkBT_ok ht t _ _ _ h3
  | .alt i t r, top, m + 1, mask, h => by
    simp only [chkBT, Bool.and_eq_true] at h
    obtain ⟨⟨⟨h1, h2⟩, h3⟩, h4⟩ := h
    cases hi : T[i]? with
    | none => rw [hi] at h2; cases h2
    | some ri =>
      rw [hi] at h2
      have hmem := (ready_iff ht hi).2 h2
      obtain ⟨o, ho, _⟩ := op_at ht hi
      simp only [btGo, Bool.and_eq_true]
      refine ⟨⟨⟨⟨?_, ?_⟩, by rw [ho]; rfl⟩, by rw [lst_set]; exact chkBT_ok ht t _ _ _ h3⟩, chkBT_ok ht r _ _ _ h4⟩
      · cases top with
        | false => rfl
        | true =>
          simp only [Bool.not_true, Bool.false_or] at h1 ⊢
          rw [List.all_eq_true]
          intro j hj
          cases hTj : T[j]? with
          | none =>
            obtain ⟨hlen, _⟩ := tabOk_get l T ht
            have hlt : j < l.length := by
              obtain ⟨_, o, ho, _⟩ := mem_ready.1 hj
              simpa using (Array.getElem?_eq_some_iff.1 ho).1
            rw [List.getElem?_eq_none_iff] at hTj
            omega
          | some rj =>
            have g := allI_get T 0 h1 j rj hTj
            rw [Nat.zero_add, (ready_iff ht hTj).1 hj] at g
            simp only [Bool.not_true, Bool.false_or] at g
            simpa using inL_mem g
      · cases hr : Region.ready .any l.toArray (lst l.length mask) with
        | nil => rw [hr] at hmem; cases hmem
        | cons a b => rfl
end
def keepBT (l : List Oper) (T : List Row) (X : List Nat) (B : BT) (m : Nat) (ws : List Nat) : Bool := Region.noSelect l.toArray && tabOk .any l.toArray l.length l T && chkX T (maskL X ||| maskL ws) X 0 (fun mask => chkBT T B true m mask) && Nat.beq (X.length + m) l.length
section
variable {P : Program} {F : Frm} {l : List Oper} {T : List Row} {Q : Exit → Act → World → Prop} {k : St → Prop} {R0 : Nat → Prop} {w0 : Org}
theorem Sat.region_bt {K : Exit → St → Prop} {st : St} {id : Nat} {l : List Oper} (T : List Row) (X : List Nat) (B : BT) (m : Nat) (ws : List Nat) (hm : P.follows .mixedOrders = true) (hB : keepBT l T X B m ws = true) (hpan : ∀ c st, ¬ K (.panic c) st)
    (h : ∀ k : St → Prop, (∀ st', K .normal st' → k st') → WO P F (l.map (·.dst)) (X.map fun i => l.getD i default) st fun st2 => WBT P F (l.map (·.dst)) l st.own (keepW X ws) true B st2 k) : Sat P F (.region id l.toArray true) st K := by
  rintro R0 w0 a w ⟨ob, R, hr⟩
  simp only [keepBT, Bool.and_eq_true, Nat.beq_eq] at hB
  obtain ⟨⟨⟨hsel, ht⟩, hc⟩, hlen⟩ := hB
  have hdrew : Grown w { w with drawn := w.drawn + 1 } := ⟨rfl, rfl, rfl, Nat.le_refl _, fun _ _ _ => rfl⟩
  refine wp_region_any hm ?_
  have hpan' : ∀ c a w, ¬ (fun e a' w' => ∃ st', K e st' ∧ Rel F R0 w0 st' a' w') (.panic c) a w := fun c a w ⟨st', hk, _⟩ => hpan c st' hk
  have := keep_sound (P := P) (F := F) (R0 := R0) (w0 := w0) (Q := fun e a' w' => ∃ st', K e st' ∧ Rel F R0 w0 st' a' w') (k := K .normal) hpan' hsel X ws B m (lst l.length 0) st a { w with drawn := w.drawn + 1 }
    (chkX_ok ht (keepW X ws) _ (fun j hj => by rw [Nat.testBit_or, maskL_bit, maskL_bit] at hj; exact hj) B m _ (fun mask hb => chkBT_ok ht B true m mask hb) X 0 hc)
    (by simpa using h _ fun _ h => h) ⟨ob, R, hr.grown hdrew⟩ (fun st' a' w' hk hr' => ⟨st', hk, hr'⟩)
  rw [hlen, lst_zero] at this
  simpa using this
end
end Eng
end Go.Proofs.Ytkpmihaaijiihaa
