/- Plans and what is due (no program in sight). -/
import Derived.Test.YtgimngpcfenoaaaDoorDueMath
import Derived.Sort.Statements
namespace Go.Proofs.YtgimngpcfenoaaaDoor
open Eng Go.Sort
structure Tsk where
  dst : Int
  proto : Int
  flow : Int
  ttl : Int
  start : Int
  every : Int
  count : Int
  deriving DecidableEq
instance : Inhabited Tsk := ⟨⟨0, 0, 0, 0, 0, 0, 0⟩⟩
def Tsk.cs (t : Tsk) : List SV := [.i .u32 t.dst, .i .i64 t.proto, .i .i64 t.flow, .i .i64 t.ttl, .i .i64 t.start, .i .i64 t.every, .i .i64 t.count]
def tskRd (ts : List Tsk) : Nat → Nat → SV := fun i j => (Tsk.cs (ts.getD i default)).getD j default
structure PlanP where
  a : Option Addr
  cap : Nat
  ts : List Tsk
  burst : Int
  every : Int
def planC (p : PlanP) : List SV := [.sl p.a p.ts.length p.cap 7 (tskRd p.ts), .i .i64 p.burst, .i .i64 p.every]
def planS (p : PlanP) : SV := .agg 3 fun j => (planC p).getD j default
def tskOk (t : Tsk) : Prop := 0 ≤ t.start ∧ 1 ≤ t.every ∧ t.every ≤ 1099511627776 ∧ 1 ≤ t.count ∧ t.count ≤ 1000 ∧ t.start + (t.count - 1) * t.every ≤ 1125899906842624
def dueOf (i : Nat) (t : Tsk) (r : Nat) : Due := ⟨i, r, t.start + r * t.every⟩
def duesT (i : Nat) (t : Tsk) (n : Nat) : List Due := (List.range n).map (dueOf i t)
def gen (ts : List Tsk) : Nat → List Due
  | 0 => []
  | k + 1 => gen ts k ++ duesT k (ts.getD k default) (ts.getD k default).count.toNat
theorem duesT_succ (i : Nat) (t : Tsk) (n : Nat) : duesT i t (n + 1) = duesT i t n ++ [dueOf i t n] := by simp [duesT, List.range_succ]
theorem mem_duesT {i n : Nat} {t : Tsk} {d : Due} : d ∈ duesT i t n ↔ ∃ r, r < n ∧ d = dueOf i t r := by
  unfold duesT
  rw [List.mem_map]
  constructor
  · rintro ⟨r, hr, rfl⟩; exact ⟨r, List.mem_range.1 hr, rfl⟩
  · rintro ⟨r, hr, rfl⟩; exact ⟨r, List.mem_range.2 hr, rfl⟩
theorem mem_gen {ts : List Tsk} : ∀ {k : Nat} {d : Due}, d ∈ gen ts k ↔ ∃ i r, i < k ∧ r < (ts.getD i default).count.toNat ∧ d = dueOf i (ts.getD i default) r
  | 0, d => by simp [gen]
  | k + 1, d => by
    rw [gen, List.mem_append, mem_gen, mem_duesT]
    constructor
    · rintro (⟨i, r, h1, h2, h3⟩ | ⟨r, h2, h3⟩)
      · exact ⟨i, r, by omega, h2, h3⟩
      · exact ⟨k, r, by omega, h2, h3⟩
    · rintro ⟨i, r, h1, h2, h3⟩
      by_cases e : i = k
      · subst e; exact .inr ⟨r, h2, h3⟩
      · exact .inl ⟨i, r, by omega, h2, h3⟩
def dueKey (a b : Due) : Prop := a.task < b.task ∨ a.task = b.task ∧ a.round < b.round
theorem gen_pair (ts : List Tsk) : ∀ k, (gen ts k).Pairwise dueKey
  | 0 => List.Pairwise.nil
  | k + 1 => by
    rw [gen, List.pairwise_append]
    refine ⟨gen_pair ts k, ?_, fun a ha b hb => ?_⟩
    · unfold duesT
      rw [List.pairwise_map]
      refine List.pairwise_lt_range.imp fun {a b} h => .inr ⟨rfl, ?_⟩
      show (a : Int) < b
      omega
    · obtain ⟨i, r, h1, _, rfl⟩ := mem_gen.1 ha
      obtain ⟨q, _, rfl⟩ := mem_duesT.1 hb
      left
      show (i : Int) < k
      omega
theorem gen_nodup (ts : List Tsk) (k : Nat) : (gen ts k).Nodup := (gen_pair ts k).imp fun {a b} h e => by
  subst e
  rcases h with h | ⟨_, h⟩ <;> omega
def cntT (ts : List Tsk) : Nat → Nat
  | 0 => 0
  | k + 1 => cntT ts k + (ts.getD k default).count.toNat
theorem gen_len (ts : List Tsk) : ∀ k, (gen ts k).length = cntT ts k
  | 0 => rfl
  | k + 1 => by rw [gen, cntT, List.length_append, gen_len ts k]; simp [duesT]
theorem cntT_le (ts : List Tsk) (h : ∀ t ∈ ts, t.count ≤ 1000) : ∀ k, k ≤ ts.length → cntT ts k ≤ 1000 * k
  | 0, _ => Nat.le_refl _
  | k + 1, hk => by
    have ih := cntT_le ts h k (by omega)
    have hm : ts.getD k default ∈ ts := by
      have : ts.getD k default = ts[k]'(by omega) := by simp [List.getD, show k < ts.length by omega]
      rw [this]; exact List.getElem_mem _
    have := h _ hm
    rw [cntT]
    omega
structure Sched (L : List Due) (ts : List Tsk) : Prop where
  asc : L.Pairwise fun a b => dueLt a b = true
  perm : L.Perm (gen ts ts.length)
theorem sched_of {L g : List Due} (hp : L.Perm g) (hn : g.Nodup) (hs : L.Pairwise fun a b => dueLt b a = false) : L.Pairwise fun a b => dueLt a b = true := by
  have hn2 : L.Nodup := hp.nodup_iff.2 hn
  have := List.Pairwise.and hs hn2
  refine this.imp fun {a b} ⟨h1, h2⟩ => ?_
  rcases dueLt_total a b with h | h | h
  · exact h
  · exact absurd h h2
  · rw [h] at h1; cases h1
theorem dueLt_iff (a b : Due) : dueLt a b = true ↔ a.at_ < b.at_ ∨ a.at_ = b.at_ ∧ (a.task < b.task ∨ a.task = b.task ∧ a.round < b.round) := by
  unfold dueLt dueCompare Due.keys
  simp only [decide_eq_true_eq, cmpL_cons]
  have h0 : cmpL [] [] = 0 := rfl
  rw [h0]
  constructor
  · intro h
    split at h
    · rename_i e1
      split at h
      · rename_i e2
        split at h
        · omega
        · rename_i e3; rw [ordI_lt] at h; exact .inr ⟨e1, .inr ⟨e2, h⟩⟩
      · rename_i e2; rw [ordI_lt] at h; exact .inr ⟨e1, .inl h⟩
    · rename_i e1; rw [ordI_lt] at h; exact .inl h
  · rintro (h | ⟨e1, h | ⟨e2, h⟩⟩)
    · rw [if_neg (by omega), ordI_lt]; exact h
    · rw [if_pos e1, if_neg (by omega), ordI_lt]; exact h
    · rw [if_pos e1, if_pos e2, if_neg (by omega), ordI_lt]; exact h
end Go.Proofs.YtgimngpcfenoaaaDoor
