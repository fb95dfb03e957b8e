/- The reference of schedules, the plain laws: always the first one of what comes next gives the schedule; a span is a filter; a bucket of the reference. -/
import Derived.Test.YtgimngpcfenoaaaDoorLimP
set_option linter.unusedSimpArgs false
set_option linter.unusedVariables false
namespace Go.Proofs.YtgimngpcfenoaaaDoor
open Go.Sort Eng
theorem dueLt_tr {a b c : Due} (h : dueLt a b = true) (h' : dueLt b c = true) : dueLt a c = true := by
  rw [dueLt_iff] at h h' ⊢
  omega
def nxt (ts : List Tsk) (nx : List Nat) (i : Nat) : Due := dueOf i (ts.getD i default) (nx.getD i 0)
def avail (ts : List Tsk) (nx : List Nat) (i : Nat) : Prop := nx.getD i 0 < (ts.getD i default).count.toNat
theorem set_getD {nx : List Nat} {b v : Nat} (hb : b < nx.length) (i : Nat) : (nx.set b v).getD i 0 = if b = i then v else nx.getD i 0 := by
  simp only [List.getD, List.getElem?_set]
  by_cases h : b = i
  · subst h; simp [hb]
  · simp [h]
structure NextInv (ts : List Tsk) (nx : List Nat) (l : List Due) : Prop where
  len : nx.length = ts.length
  le : ∀ i, i < ts.length → nx.getD i 0 ≤ (ts.getD i default).count.toNat
  asc : l.Pairwise fun a b => dueLt a b = true
  mem : ∀ d, d ∈ l ↔ ∃ i r, i < ts.length ∧ r < nx.getD i 0 ∧ d = dueOf i (ts.getD i default) r
  ahead : ∀ d ∈ l, ∀ i, i < ts.length → avail ts nx i → dueLt d (nxt ts nx i) = true
theorem NextInv.start (ts : List Tsk) : NextInv ts (List.replicate ts.length 0) [] := by
  have h0 : ∀ i, (List.replicate ts.length 0).getD i 0 = 0 := fun i => by simp only [List.getD, List.getElem?_replicate]; split <;> rfl
  refine ⟨by simp, fun i _ => by rw [h0]; omega, List.Pairwise.nil, fun d => ⟨fun h => (by cases h), ?_⟩, fun d hd => (by cases hd)⟩
  rintro ⟨i, r, _, h, _⟩
  rw [h0] at h
  omega
theorem lt_irr (a : Due) : dueLt a a = false := by
  cases h : dueLt a a with
  | false => rfl
  | true => rw [dueLt_iff] at h; omega
theorem NextInv.nodup {ts : List Tsk} {nx : List Nat} {l : List Due} (h : NextInv ts nx l) : l.Nodup := h.asc.imp fun {a b} hab e => by
  subst e
  rw [lt_irr] at hab
  cases hab
theorem NextInv.len_le {ts : List Tsk} {nx : List Nat} {l : List Due} (h : NextInv ts nx l) : l.length ≤ cntT ts ts.length := by
  have hp : l.Perm ((gen ts ts.length).filter fun d => decide (d ∈ l)) := (List.perm_ext_iff_of_nodup h.nodup ((gen_nodup ts ts.length).filter _)).2 fun d => by
    rw [List.mem_filter, decide_eq_true_eq]
    refine ⟨fun hd => ⟨?_, hd⟩, fun hd => hd.2⟩
    obtain ⟨i, r, h1, h2, h3⟩ := (h.mem d).1 hd
    exact mem_gen.2 ⟨i, r, h1, Nat.lt_of_lt_of_le h2 (h.le i h1), h3⟩
  rw [hp.length_eq, ← gen_len]
  exact List.length_filter_le _ _
theorem NextInv.step {ts : List Tsk} {nx : List Nat} {l : List Due} {b : Nat} (h : NextInv ts nx l) (hb : b < ts.length) (ha : avail ts nx b) (hev : 1 ≤ (ts.getD b default).every)
    (hmin : ∀ i, i < ts.length → avail ts nx i → i = b ∨ dueLt (nxt ts nx b) (nxt ts nx i) = true) : NextInv ts (nx.set b (nx.getD b 0 + 1)) (l ++ [nxt ts nx b]) := by
  have hg := set_getD (nx := nx) (v := nx.getD b 0 + 1) (b := b) (by rw [h.len]; exact hb)
  have hstep : dueLt (nxt ts nx b) (dueOf b (ts.getD b default) (nx.getD b 0 + 1)) = true := by
    rw [dueLt_iff]
    left
    show (ts.getD b default).start + ((nx.getD b 0 : Nat) : Int) * (ts.getD b default).every < (ts.getD b default).start + ((nx.getD b 0 + 1 : Nat) : Int) * (ts.getD b default).every
    rw [Int.natCast_succ, Int.add_mul]
    omega
  refine ⟨by rw [List.length_set]; exact h.len, fun i hi => ?_, ?_, fun d => ?_, fun d hd i hi hav => ?_⟩
  · rw [hg]
    split
    · rename_i e; subst e; exact ha
    · exact h.le i hi
  · rw [List.pairwise_append]
    refine ⟨h.asc, by simp, fun a ha' c hc => ?_⟩
    obtain rfl := List.mem_singleton.1 hc
    exact h.ahead a ha' b hb ha
  · rw [List.mem_append, List.mem_singleton, h.mem]
    constructor
    · rintro (⟨i, r, h1, h2, h3⟩ | rfl)
      · refine ⟨i, r, h1, ?_, h3⟩
        rw [hg]
        split
        · rename_i e; subst e; omega
        · exact h2
      · exact ⟨b, nx.getD b 0, hb, by rw [hg, if_pos rfl]; omega, rfl⟩
    · rintro ⟨i, r, h1, h2, h3⟩
      rw [hg] at h2
      split at h2
      · rename_i e
        subst e
        rcases Nat.lt_or_ge r (nx.getD b 0) with h4 | h4
        · exact .inl ⟨b, r, h1, h4, h3⟩
        · have : r = nx.getD b 0 := by omega
          subst this
          exact .inr h3
      · exact .inl ⟨i, r, h1, h2, h3⟩
  · unfold avail at hav
    unfold nxt
    rw [hg] at hav ⊢
    rw [List.mem_append, List.mem_singleton] at hd
    by_cases e : b = i
    · subst e
      simp only [if_true] at hav ⊢
      rcases hd with hd | rfl
      · exact dueLt_tr (h.ahead d hd b hb ha) hstep
      · exact hstep
    · simp only [e, if_false] at hav ⊢
      rcases hd with hd | rfl
      · exact h.ahead d hd i hi hav
      · rcases hmin i hi hav with h9 | h9
        · exact absurd h9.symm e
        · exact h9
theorem NextInv.done {ts : List Tsk} {nx : List Nat} {l : List Due} (h : NextInv ts nx l) (hd : ∀ i, i < ts.length → ¬ avail ts nx i) : Sched l ts := by
  refine ⟨h.asc, (List.perm_ext_iff_of_nodup h.nodup (gen_nodup ts ts.length)).2 fun d => ?_⟩
  rw [h.mem, mem_gen]
  constructor
  · rintro ⟨i, r, h1, h2, h3⟩
    exact ⟨i, r, h1, Nat.lt_of_lt_of_le h2 (h.le i h1), h3⟩
  · rintro ⟨i, r, h1, h2, h3⟩
    refine ⟨i, r, h1, ?_, h3⟩
    have := hd i h1
    unfold avail at this
    omega
def Scan (ts : List Tsk) (nx : List Nat) (i : Nat) (best at_ : Int) : Prop :=
  (best = -1 ∧ at_ = 0 ∧ ∀ j, j < i → ¬ avail ts nx j) ∨ ∃ b : Nat, best = (b : Int) ∧ b < i ∧ avail ts nx b ∧ at_ = (nxt ts nx b).at_ ∧ ∀ j, j < i → avail ts nx j → j = b ∨ dueLt (nxt ts nx b) (nxt ts nx j) = true
theorem Scan.start (ts : List Tsk) (nx : List Nat) : Scan ts nx 0 (-1) 0 := .inl ⟨rfl, rfl, fun j hj => by omega⟩
theorem nxt_task (ts : List Tsk) (nx : List Nat) (i : Nat) : (nxt ts nx i).task = (i : Int) := rfl
theorem Scan.take {ts : List Tsk} {nx : List Nat} {i : Nat} {best at_ : Int} (h : Scan ts nx i best at_) (ha : avail ts nx i) (hc : best < 0 ∨ (nxt ts nx i).at_ < at_) : Scan ts nx (i + 1) i (nxt ts nx i).at_ := by
  refine .inr ⟨i, rfl, by omega, ha, rfl, fun j hj hav => ?_⟩
  rcases h with ⟨h1, h2, h3⟩ | ⟨b, h1, h2, h3, h4, h5⟩
  · left
    rcases Nat.lt_or_ge j i with h9 | h9
    · exact absurd hav (h3 j h9)
    · omega
  · have hlt : (nxt ts nx i).at_ < (nxt ts nx b).at_ := by omega
    have hib : dueLt (nxt ts nx i) (nxt ts nx b) = true := by rw [dueLt_iff]; exact .inl hlt
    rcases Nat.lt_or_ge j i with h9 | h9
    · right
      rcases h5 j h9 hav with rfl | h10
      · exact hib
      · exact dueLt_tr hib h10
    · left; omega
theorem Scan.skip {ts : List Tsk} {nx : List Nat} {i : Nat} {best at_ : Int} (h : Scan ts nx i best at_) (hc : ¬ (avail ts nx i ∧ (best < 0 ∨ (nxt ts nx i).at_ < at_))) : Scan ts nx (i + 1) best at_ := by
  rcases h with ⟨h1, h2, h3⟩ | ⟨b, h1, h2, h3, h4, h5⟩
  · refine .inl ⟨h1, h2, fun j hj hav => ?_⟩
    rcases Nat.lt_or_ge j i with h9 | h9
    · exact h3 j h9 hav
    · have : j = i := by omega
      subst this
      exact hc ⟨hav, .inl (by omega)⟩
  · refine .inr ⟨b, h1, by omega, h3, h4, fun j hj hav => ?_⟩
    rcases Nat.lt_or_ge j i with h9 | h9
    · exact h5 j h9 hav
    · have : j = i := by omega
      subst this
      right
      have h8 : ¬ (nxt ts nx j).at_ < at_ := fun h8 => hc ⟨hav, .inr h8⟩
      rw [dueLt_iff, nxt_task, nxt_task]
      omega
theorem btw_filter {lo hi : Int} : ∀ {xs : List Due}, ByAt xs → btw lo hi xs = xs.filter fun d => decide (d.at_ ≥ lo ∧ d.at_ < hi)
  | [], _ => rfl
  | x :: xs, h => by
    obtain ⟨h1, h2⟩ := List.pairwise_cons.1 h
    have ih := btw_filter (lo := lo) (hi := hi) h2
    simp only [btw]
    by_cases c1 : x.at_ ≥ hi
    · rw [if_pos c1]
      symm
      rw [List.filter_eq_nil_iff]
      intro y hy
      rw [decide_eq_true_eq]
      rcases List.mem_cons.1 hy with rfl | hy
      · omega
      · have := h1 y hy; omega
    · rw [if_neg c1]
      by_cases c2 : x.at_ ≥ lo
      · rw [if_pos c2, List.filter_cons_of_pos (by rw [decide_eq_true_eq]; omega), ih]
      · rw [if_neg c2, List.filter_cons_of_neg (by rw [decide_eq_true_eq]; omega), ih]
theorem takeF_be {b e : Int} {t : Tok} {x : Int} (hb : 0 ≤ b) (he : 0 ≤ e) (ht : 0 ≤ t.credit ∧ t.credit ≤ b * e) : 0 ≤ (takeF b e t x).1.credit ∧ (takeF b e t x).1.credit ≤ b * e := by
  have h0 : 0 ≤ b * e := Int.mul_nonneg hb he
  unfold takeF
  split
  · exact ⟨Int.le_refl _, h0⟩
  · split
    · dsimp only; omega
    · dsimp only; omega
theorem tokG_be {b e : Int} (hb : 0 ≤ b) (he : 0 ≤ e) : ∀ (t : Tok) (xs : List Due), 0 ≤ t.credit ∧ t.credit ≤ b * e → 0 ≤ (tokG b e t xs).credit ∧ (tokG b e t xs).credit ≤ b * e
  | t, [], ht => ht
  | t, x :: xs, ht => tokG_be hb he _ xs (takeF_be hb he ht)
end Go.Proofs.YtgimngpcfenoaaaDoor
