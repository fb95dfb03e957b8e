import Derived.Test.YtfeiiadligkamaaGreatCmD
import Derived.Sort.AssemblyPlain
import Derived.Test.YtfeiiadligkamaaGreatExM
import Derived.Test.YtfeiiadligkamaaGreatExcMath
import Derived.Test.YtfeiiadligkamaaGreatCmC
import Derived.Test.YtfeiiadligkamaaGreatPk3
import Derived.Test.YtfeiiadligkamaaGreatPk2
import Derived.Test.YtfeiiadligkamaaGreatSrtLay
import Derived.Test.YtfeiiadligkamaaGreatCmB

/- The order of evidence (no program in sight). -/
set_option linter.unusedSimpArgs false
set_option linter.unusedVariables false
namespace Go.Proofs.YtfeiiadligkamaaGreat
open Eng
theorem idnCmp_neg (a b : Idn) : idnCmpI b a = - idnCmpI a b := cmpL_neg _ _
theorem cmpIds_neg : ∀ (l m : List Idn), cmpIds m l = - cmpIds l m
 | [], [] => rfl
 | [], _ :: _ => rfl
 | _ :: _, [] => rfl
 | x :: l, y :: m => by
  unfold cmpIds
  rw [idnCmp_neg x y, cmpIds_neg l m]
  by_cases h : idnCmpI x y = 0
  ·rw [if_neg (by simp [h]), if_neg (by simp [h])]
  ·rw [if_pos (by omega), if_pos h]
theorem cmpIds_zero : ∀ {l m : List Idn}, cmpIds l m = 0 ↔ l = m
 | [], [] => by simp [cmpIds]
 | [], _ :: _ => by simp [cmpIds]
 | _ :: _, [] => by simp [cmpIds]
 | x :: l, y :: m => by
  unfold cmpIds
  by_cases h : idnCmpI x y = 0
  ·rw [if_neg (by simp [h]), cmpIds_zero]
   have := idnCmpI_zero.1 h
   subst this
   simp
  ·rw [if_pos h]
   constructor
   ·intro h2; exact absurd h2 h
   ·intro h2
    simp only [List.cons.injEq] at h2
    exact absurd (idnCmpI_zero.2 h2.1) h
theorem cmpIds_trans : ∀ {l m n : List Idn}, cmpIds l m ≤ 0 → cmpIds m n ≤ 0 → cmpIds l n ≤ 0
 | [], _, [], _, _ => by simp [cmpIds]
 | [], _, _ :: _, _, _ => by simp [cmpIds]
 | _ :: _, [], _, h, _ => by simp [cmpIds] at h
 | _ :: _, _ :: _, [], _, h => by simp [cmpIds] at h
 | x :: l, y :: m, z :: n, h1, h2 => by
  unfold cmpIds at h1 h2 ⊢
  by_cases a : idnCmpI x y = 0
  ·have e := idnCmpI_zero.1 a
   subst e
   rw [if_neg (by simp [a])] at h1
   by_cases b : idnCmpI x z = 0
   ·rw [if_neg (by simp [b])] at h2
    rw [if_neg (by simp [b])]
    exact cmpIds_trans h1 h2
   ·rw [if_pos b] at h2
    rw [if_pos b]
    exact h2
  ·rw [if_pos a] at h1
   have a1 : idnCmpI x y < 0 := by omega
   by_cases b : idnCmpI y z = 0
   ·have e := idnCmpI_zero.1 b
    subst e
    rw [if_pos a]
    exact h1
   ·rw [if_pos b] at h2
    have b1 : idnCmpI y z < 0 := by omega
    have c := cmpL_trans x.keys y.keys z.keys rfl rfl a1 b1
    have c' : idnCmpI x z < 0 := c
    rw [if_pos (by omega)]
    omega
def lex3 (p q r w : Int) : Int := if p ≠ 0 then p else if q ≠ 0 then q else if r ≠ 0 then r else w
theorem evCmp_lex (e f : Evd) : evCmp e f = lex3 (ordI e.kind f.kind) (ordI e.a f.a) (ordI e.b f.b) (cmpIds e.ids f.ids) := by
 unfold evCmp lex3 orL orL orL orL orL
 by_cases h : cmpIds e.ids f.ids = 0
 ·simp [h]
 ·simp [h]
theorem evCmp_neg (e f : Evd) : evCmp f e = - evCmp e f := by
 rw [evCmp_lex, evCmp_lex, ordI_neg e.kind, ordI_neg e.a, ordI_neg e.b, cmpIds_neg e.ids]
 unfold lex3
 by_cases h1 : ordI e.kind f.kind = 0
 ·by_cases h2 : ordI e.a f.a = 0
  ·by_cases h3 : ordI e.b f.b = 0
   ·simp [h1, h2, h3]
   ·simp [h1, h2, h3]
  ·simp [h1, h2]
 ·simp [h1]
theorem evCmp_zero (e f : Evd) : evCmp e f = 0 ↔ e.kind = f.kind ∧ e.a = f.a ∧ e.b = f.b ∧ e.ids = f.ids := by
 rw [evCmp_lex]
 unfold lex3
 by_cases h1 : ordI e.kind f.kind = 0
 ·rw [if_neg (by simp [h1])]
  by_cases h2 : ordI e.a f.a = 0
  ·rw [if_neg (by simp [h2])]
   by_cases h3 : ordI e.b f.b = 0
   ·rw [if_neg (by simp [h3]), cmpIds_zero]
    rw [ordI_zero] at h1 h2 h3
    simp [h1, h2, h3]
   ·rw [if_pos h3]
    exact ⟨fun h => absurd h h3, fun h => absurd (ordI_zero.2 h.2.2.1) h3⟩
  ·rw [if_pos h2]
   exact ⟨fun h => absurd h h2, fun h => absurd (ordI_zero.2 h.2.1) h2⟩
 ·rw [if_pos h1]
  exact ⟨fun h => absurd h h1, fun h => absurd (ordI_zero.2 h.1) h1⟩
theorem ordI_cases (a b : Int) : (a < b ∧ ordI a b = -1) ∨ (a = b ∧ ordI a b = 0) ∨ (b < a ∧ ordI a b = 1) := by
 unfold ordI
 split
 ·exact .inl ⟨by assumption, rfl⟩
 ·split
  ·exact .inr (.inr ⟨by assumption, rfl⟩)
  ·exact .inr (.inl ⟨by omega, rfl⟩)
theorem evCmp_trans (e f g : Evd) (h1 : evCmp e f ≤ 0) (h2 : evCmp f g ≤ 0) : evCmp e g ≤ 0 := by
 rw [evCmp_lex] at h1 h2 ⊢
 have ht := @cmpIds_trans e.ids f.ids g.ids
 unfold lex3 at *
 rcases ordI_cases e.kind f.kind with ⟨a1, a2⟩ | ⟨a1, a2⟩ | ⟨a1, a2⟩ <;> rcases ordI_cases f.kind g.kind with ⟨b1, b2⟩ | ⟨b1, b2⟩ | ⟨b1, b2⟩ <;> rcases ordI_cases e.kind g.kind with ⟨c1, c2⟩ | ⟨c1, c2⟩ | ⟨c1, c2⟩ <;> first | omega | skip
 all_goals simp only [a2, b2, c2, ne_eq, not_true_eq_false, if_false, reduceIte, Int.reduceNeg, Int.reduceEq, not_false_eq_true, if_true] at h1 h2 ⊢
 all_goals first | omega | skip
 all_goals
  rcases ordI_cases e.a f.a with ⟨d1, d2⟩ | ⟨d1, d2⟩ | ⟨d1, d2⟩ <;> rcases ordI_cases f.a g.a with ⟨x1, x2⟩ | ⟨x1, x2⟩ | ⟨x1, x2⟩ <;> rcases ordI_cases e.a g.a with ⟨y1, y2⟩ | ⟨y1, y2⟩ | ⟨y1, y2⟩ <;> first | omega | skip
 all_goals simp only [d2, x2, y2, ne_eq, not_true_eq_false, if_false, reduceIte, Int.reduceNeg, Int.reduceEq, not_false_eq_true, if_true] at h1 h2 ⊢
 all_goals first | omega | skip
 all_goals
  rcases ordI_cases e.b f.b with ⟨m1, m2⟩ | ⟨m1, m2⟩ | ⟨m1, m2⟩ <;> rcases ordI_cases f.b g.b with ⟨n1, n2⟩ | ⟨n1, n2⟩ | ⟨n1, n2⟩ <;> rcases ordI_cases e.b g.b with ⟨o1, o2⟩ | ⟨o1, o2⟩ | ⟨o1, o2⟩ <;> first | omega | skip
 all_goals simp only [m2, n2, o2, ne_eq, not_true_eq_false, if_false, reduceIte, Int.reduceNeg, Int.reduceEq, not_false_eq_true, if_true] at h1 h2 ⊢
 all_goals first | omega | exact ht h1 h2
end Go.Proofs.YtfeiiadligkamaaGreat


/- Rows of evidence that is not long. -/
namespace Go.Proofs.YtfeiiadligkamaaGreat
open Go.Sort Eng
structure Evs where
 e : Evd
 h : e.ids.length ≤ 1000
instance : Inhabited Evs := ⟨⟨default, Nat.zero_le _⟩⟩
def Evs.cs (x : Evs) : List SV := Evd.cs x.e
def evsRd (d : Array Evs) : Nat → Nat → SV := fun i j => (Evs.cs d[i]!).getD j default
def evsRow (ad : Option Addr) (N cap : Nat) (d : Array Evs) : Eng.Own := .row ad 32 N cap 4 (evsRd d)
def evsAg (x : Evs) : SV := .agg 4 fun j => (Evs.cs x).getD j default
def evsCmp (g : FuncId) (lt : Evs → Evs → Bool) : Prop := ∀ x y, ∃ c : Int, lt x y = decide (c < 0) ∧ ∀ F, Contract F Tryz.prog g [evsAg x, evsAg y] (fun r => r = .i .i64 c)
def evsLt (x y : Evs) : Bool := decide (evCmp x.e y.e < 0)
theorem evsCmp1 : evsCmp 61 evsLt := fun x y => ⟨evCmp x.e y.e, rfl, fun F => compareEvC F x.e y.e (by have := x.h; omega) (by have := y.h; omega)⟩
end Go.Proofs.YtfeiiadligkamaaGreat


/- The best of each pair (no program in sight). -/
namespace Go.Proofs.YtfeiiadligkamaaGreat
open Eng Go.Sort
theorem orL_cons (x : Int) (l : List Int) : orL (x :: l) = if x ≠ 0 then x else orL l := rfl
theorem orL_app : ∀ (l m : List Int), orL (l ++ m) = if orL l ≠ 0 then orL l else orL m
 | [], m => by simp [orL]
 | x :: l, m => by
  rw [List.cons_append, orL_cons, orL_cons, orL_app l m]
  by_cases h : x = 0 <;> simp [h]
theorem idnCmp_orL (x y : Idn) : idnCmpI x y = orL [ordI x.van y.van, ordI x.run y.run, ordI x.num y.num] := rfl
theorem excCmp_or (x y : Exc) : excCmpI x y = orL [ordI x.a y.a, ordI x.b y.b, idnCmpI x.f y.f, idnCmpI x.s y.s] := by
 have e : excCmpI x y = orL ([ordI x.a y.a, ordI x.b y.b] ++ ([ordI x.f.van y.f.van, ordI x.f.run y.f.run, ordI x.f.num y.f.num] ++ [ordI x.s.van y.s.van, ordI x.s.run y.s.run, ordI x.s.num y.s.num])) := rfl
 rw [e, orL_app, orL_app, ← idnCmp_orL, ← idnCmp_orL]
 simp only [orL_cons, orL]
 repeat' split
 all_goals first | rfl | omega | contradiction | simp_all
def Exc.pr (x : Exc) : Par := ⟨x.a, x.b⟩
def excB (x y : Exc) : Bool := decide (cmpIds [x.s, x.f] [y.s, y.f] < 0)
theorem cmpIds_lt_trans {l m n : List Idn} (h : cmpIds l m < 0) (k : cmpIds m n < 0) : cmpIds l n < 0 := by
 have h1 := cmpIds_trans (Int.le_of_lt h) (Int.le_of_lt k)
 rcases Int.lt_or_eq_of_le h1 with h2 | h2
 ·exact h2
 ·have e := cmpIds_zero.1 h2
  subst e
  have := cmpIds_neg l m
  omega
theorem excB_irrefl (x : Exc) : excB x x = false := by
 unfold excB
 rw [decide_eq_false_iff_not, cmpIds_zero.2 rfl]
 omega
theorem excB_trans (x y z : Exc) (h : excB x y = true) (k : excB y z = true) : excB x z = true := by
 unfold excB at *
 rw [decide_eq_true_eq] at *
 exact cmpIds_lt_trans h k
theorem excB_both {x y : Exc} (h : excB x y = false) (k : excB y x = false) : x.f = y.f ∧ x.s = y.s := by
 unfold excB at *
 rw [decide_eq_false_iff_not] at *
 have n := cmpIds_neg [x.s, x.f] [y.s, y.f]
 have e := cmpIds_zero.1 (show cmpIds [x.s, x.f] [y.s, y.f] = 0 by omega)
 simp only [List.cons.injEq, and_true] at e
 exact ⟨e.2, e.1⟩
/-! ### The best of each key -/
section
variable {α : Type} {key : α → Par} {lt : α → α → Bool}
structure BestI (key : α → Par) (lt : α → α → Bool) (C : α → Prop) (X : List α) : Prop where
 nodup : (X.map key).Nodup
 each : ∀ e ∈ X, C e ∧ ∀ x, C x → key x = key e → lt x e = false
 all : ∀ x, C x → ∃ e ∈ X, key e = key x
theorem BestI.start : BestI key lt (fun _ => False) [] := ⟨List.nodup_nil, fun e he => (by cases he), fun x hx => hx.elim⟩
theorem BestI.congr {C C' : α → Prop} {X : List α} (h : BestI key lt C X) (hc : ∀ x, C x ↔ C' x) : BestI key lt C' X :=
 ⟨h.nodup, fun e he => ⟨(hc e).1 (h.each e he).1, fun x hx => (h.each e he).2 x ((hc x).2 hx)⟩, fun x hx => h.all x ((hc x).2 hx)⟩
theorem BestI.new {C : α → Prop} {X : List α} (hi : ∀ x, lt x x = false) (h : BestI key lt C X) {y : α} (hn : ∀ e ∈ X, key e ≠ key y) : BestI key lt (fun x => C x ∨ x = y) (X ++ [y]) := by
 refine ⟨?_, fun e he => ?_, fun x hx => ?_⟩
 ·rw [List.map_append, List.nodup_append]
  refine ⟨h.nodup, by simp, fun a ha b hb e => ?_⟩
  obtain ⟨x, hx, rfl⟩ := List.mem_map.1 ha
  rw [List.map_singleton, List.mem_singleton] at hb
  exact hn x hx (by rw [e, hb])
 ·rcases List.mem_append.1 he with he | he
  ·refine ⟨.inl (h.each e he).1, fun x hx hk => ?_⟩
   rcases hx with hx | hx
   ·exact (h.each e he).2 x hx hk
   ·rw [hx] at hk; exact absurd hk.symm (hn e he)
  ·rw [List.mem_singleton] at he
   subst he
   refine ⟨.inr rfl, fun x hx hk => ?_⟩
   rcases hx with hx | rfl
   ·obtain ⟨e', he', hk'⟩ := h.all x hx
    exact absurd (hk'.trans hk) (hn e' he')
   ·exact hi x
 ·rcases hx with hx | rfl
  ·obtain ⟨e, he, hk⟩ := h.all x hx
   exact ⟨e, List.mem_append.2 (.inl he), hk⟩
  ·exact ⟨x, List.mem_append.2 (.inr (List.mem_singleton.2 rfl)), rfl⟩
theorem BestI.inj {C : α → Prop} {X : List α} (h : BestI key lt C X) {i j : Nat} (hi : i < X.length) (hj : j < X.length) (e : key X[i] = key X[j]) : i = j := by
 refine (List.getElem?_inj (by simpa using hi) h.nodup).1 ?_
 rw [List.getElem?_map, List.getElem?_map, List.getElem?_eq_getElem hi, List.getElem?_eq_getElem hj]
 simp [e]
theorem BestI.set {C : α → Prop} {X : List α} (hi : ∀ x, lt x x = false) (ht : ∀ x y z, lt x y = true → lt y z = true → lt x z = true) (h : BestI key lt C X) {y : α} {i : Nat} (hl : i < X.length) (hk : key X[i] = key y) (hb : lt y X[i] = true) : BestI key lt (fun x => C x ∨ x = y) (X.set i y) := by
 refine ⟨?_, fun e he => ?_, fun x hx => ?_⟩
 ·have e : (X.set i y).map key = X.map key := by
   rw [List.map_set, ← hk]
   apply List.ext_getElem?
   intro j
   rw [List.getElem?_set]
   split
   ·rename_i e; subst e; simp [hl]
   ·rfl
  rw [e]; exact h.nodup
 ·obtain ⟨j, hj, rfl⟩ := List.getElem_of_mem he
  rw [List.length_set] at hj
  rw [List.getElem_set]
  split
  ·refine ⟨.inr rfl, fun x hx hkx => ?_⟩
   rcases hx with hx | rfl
   ·cases hlt : lt x y with
    | false => rfl
    | true =>
     have h1 := (h.each X[i] (List.getElem_mem _)).2 x hx (by rw [hkx, hk])
     rw [ht _ _ _ hlt hb] at h1
     cases h1
   ·exact hi x
  ·rename_i hne
   refine ⟨.inl (h.each X[j] (List.getElem_mem _)).1, fun x hx hkx => ?_⟩
   rcases hx with hx | hx
   ·exact (h.each X[j] (List.getElem_mem _)).2 x hx hkx
   ·rw [hx] at hkx; exact absurd (h.inj hl hj (by rw [hk, hkx])) hne
 ·have hx' : ∃ e ∈ X, key e = key x := by
   rcases hx with hx | rfl
   ·exact h.all x hx
   ·exact ⟨X[i], List.getElem_mem _, hk⟩
  obtain ⟨e, he, hke⟩ := hx'
  obtain ⟨j, hj, rfl⟩ := List.getElem_of_mem he
  by_cases e : i = j
  ·subst e
   exact ⟨y, List.mem_of_getElem? (List.getElem?_set_self hl), by rw [← hk, hke]⟩
  ·exact ⟨X[j], List.mem_of_getElem? (i := j) (by rw [List.getElem?_set_ne e, List.getElem?_eq_getElem hj]), hke⟩
theorem BestI.keep {C : α → Prop} {X : List α} (h : BestI key lt C X) {y : α} {i : Nat} (hl : i < X.length) (hk : key X[i] = key y) (hb : lt y X[i] = false) : BestI key lt (fun x => C x ∨ x = y) X := by
 refine ⟨h.nodup, fun e he => ⟨.inl (h.each e he).1, fun x hx hkx => ?_⟩, fun x hx => ?_⟩
 ·rcases hx with hx | rfl
  ·exact (h.each e he).2 x hx hkx
  ·obtain ⟨j, hj, rfl⟩ := List.getElem_of_mem he
   obtain rfl := h.inj hl hj (by rw [hk, hkx])
   exact hb
 ·rcases hx with hx | rfl
  ·exact h.all x hx
  ·exact ⟨X[i], List.getElem_mem _, hk⟩
structure BestOf (key : α → Par) (lt : α → α → Bool) (C : α → Prop) (es : List α) : Prop where
 asc : es.Pairwise fun x y => parLt (key x) (key y) = true
 each : ∀ e ∈ es, C e ∧ ∀ x, C x → key x = key e → lt x e = false
 all : ∀ x, C x → ∃ e ∈ es, key e = key x
theorem BestI.sorted {C : α → Prop} {X L : List α} (h : BestI key lt C X) (hp : L.Perm X) (hs : L.Pairwise fun x y => parLt (key y) (key x) = false) : BestOf key lt C L := by
 have hn : (L.map key).Nodup := (hp.map key).nodup_iff.2 h.nodup
 refine ⟨?_, fun e he => h.each e (hp.mem_iff.1 he), fun x hx => ?_⟩
 ·rw [List.pairwise_iff_getElem] at hs ⊢
  intro i j hi hj hij
  have h1 := hs i j hi hj hij
  rcases parLt_total (key L[i]) (key L[j]) with h2 | h2 | h2
  ·exact h2
  ·have := (List.getElem?_inj (i := i) (j := j) (by simpa using hi) hn).1 (by
    rw [List.getElem?_map, List.getElem?_map, List.getElem?_eq_getElem hi, List.getElem?_eq_getElem hj]
    simp [h2])
   omega
  ·rw [h1] at h2; cases h2
 ·obtain ⟨e, he, hk⟩ := h.all x hx
  exact ⟨e, hp.mem_iff.2 he, hk⟩
theorem asc_keys {l m : List α} (hl : l.Pairwise fun x y => parLt (key x) (key y) = true) (hm : m.Pairwise fun x y => parLt (key x) (key y) = true) (h : ∀ p, (∃ e ∈ l, key e = p) ↔ ∃ e ∈ m, key e = p) : l.map key = m.map key := by
 have hlp : (l.map key).Pairwise fun x y => parLt x y = true := List.pairwise_map.2 hl
 have hmp : (m.map key).Pairwise fun x y => parLt x y = true := List.pairwise_map.2 hm
 have hmem : ∀ p, p ∈ l.map key ↔ p ∈ m.map key := fun p => by
  rw [List.mem_map, List.mem_map]
  exact h p
 generalize l.map key = a at hlp hmem
 generalize m.map key = b at hmp hmem
 clear hl hm h
 induction a generalizing b with
 | nil =>
  cases b with
  | nil => rfl
  | cons y b => have := (hmem y).2 (by simp); cases this
 | cons x a ih =>
  cases b with
  | nil => have := (hmem x).1 (by simp); cases this
  | cons y b =>
   have h1 := List.pairwise_cons.1 hlp
   have h2 := List.pairwise_cons.1 hmp
   have hxy : x = y := by
    rcases List.mem_cons.1 ((hmem x).1 (by simp)) with e | e
    ·exact e
    ·rcases List.mem_cons.1 ((hmem y).2 (by simp)) with e' | e'
     ·exact e'.symm
     ·have := parLt_trans _ _ _ (h2.1 x e) (h1.1 y e')
      rw [parLt_irrefl] at this; cases this
   subst hxy
   congr 1
   refine ih h1.2 b h2.2 fun p => ⟨fun hp => ?_, fun hp => ?_⟩
   ·rcases List.mem_cons.1 ((hmem p).1 (List.mem_cons_of_mem _ hp)) with e | e
    ·subst e
     have := h1.1 p hp
     rw [parLt_irrefl] at this; cases this
    ·exact e
   ·rcases List.mem_cons.1 ((hmem p).2 (List.mem_cons_of_mem _ hp)) with e | e
    ·subst e
     have := h2.1 p hp
     rw [parLt_irrefl] at this; cases this
    ·exact e
theorem BestOf.unique {C D : α → Prop} {l m : List α} (h : BestOf key lt C l) (k : BestOf key lt D m) (hcd : ∀ x, C x ↔ D x) : l.length = m.length ∧ ∀ i (h1 : i < l.length) (h2 : i < m.length), key l[i] = key m[i] ∧ lt l[i] m[i] = false ∧ lt m[i] l[i] = false := by
 have hk : l.map key = m.map key := asc_keys h.asc k.asc fun p => ⟨fun ⟨e, he, hp⟩ => by
   obtain ⟨e', he', hp'⟩ := k.all e ((hcd e).1 (h.each e he).1)
   exact ⟨e', he', hp'.trans hp⟩, fun ⟨e, he, hp⟩ => by
   obtain ⟨e', he', hp'⟩ := h.all e ((hcd e).2 (k.each e he).1)
   exact ⟨e', he', hp'.trans hp⟩⟩
 refine ⟨by simpa using congrArg List.length hk, fun i h1 h2 => ?_⟩
 have hki : key l[i] = key m[i] := by
  have := congrArg (·[i]?) hk
  simp only [List.getElem?_map, List.getElem?_eq_getElem h1, List.getElem?_eq_getElem h2, Option.map_some, Option.some.injEq] at this
  exact this
 exact ⟨hki, (k.each m[i] (List.getElem_mem _)).2 l[i] ((hcd _).1 (h.each l[i] (List.getElem_mem _)).1) hki, (h.each l[i] (List.getElem_mem _)).2 m[i] ((hcd _).2 (k.each m[i] (List.getElem_mem _)).1) hki.symm⟩
end
/-! ### Exclusions -/
def mkExc (a b : Res) : Exc := ⟨a.from_, b.from_, a.idn, b.idn⟩
def ExcR (a b : Res) : Prop := a.ttl ≠ b.ttl ∧ a.from_ < b.from_
def ExcC (xs : List Res) (x : Exc) : Prop := ∃ p, IsPart xs p ∧ ∃ a ∈ p, ∃ b ∈ p, wayR a = true ∧ wayR b = true ∧ a.flow = b.flow ∧ ExcR a b ∧ x = mkExc a b
def ExcOf (xs : List Res) (es : List Exc) : Prop := BestOf Exc.pr excB (ExcC xs) es
theorem ExcOf.unique {xs ys : List Res} {l m : List Exc} (h : ExcOf xs l) (k : ExcOf ys m) (hc : ∀ x, ExcC xs x ↔ ExcC ys x) : l = m := by
 obtain ⟨h1, h2⟩ := BestOf.unique h k hc
 apply List.ext_getElem h1
 intro i hi hj
 obtain ⟨e1, e2, e3⟩ := h2 i hi hj
 obtain ⟨e4, e5⟩ := excB_both e2 e3
 generalize l[i] = x at *
 generalize m[i] = y at *
 cases x; cases y
 simp only [Exc.pr, Par.mk.injEq] at e1
 simp only at e4 e5
 obtain ⟨rfl, rfl⟩ := e1
 subst e4; subst e5; rfl
theorem flows_exc {xs : List Res} {gs : List (List Res)} (h : FlowsOf xs gs) (x : Exc) : (∃ g ∈ gs, ∃ a ∈ g, ∃ b ∈ g, ExcR a b ∧ x = mkExc a b) ↔ ExcC xs x := by
 constructor
 ·rintro ⟨g, hg, a, ha, b, hb, h1, h2⟩
  obtain ⟨p, hp, fl, h3⟩ := h.snd g hg
  obtain ⟨a1, a2, a3⟩ := h3 a ha
  obtain ⟨b1, b2, b3⟩ := h3 b hb
  exact ⟨p, hp, a, a1, b, b1, a2, b2, by rw [a3, b3], h1, h2⟩
 ·rintro ⟨p, hp, a, ha, b, hb, wa, wb, hf, h1, h2⟩
  obtain ⟨g, hg, g1, g2⟩ := h.cmp p hp a ha b hb wa wb hf
  exact ⟨g, hg, a, g1, b, g2, h1, h2⟩
end Go.Proofs.YtfeiiadligkamaaGreat


/- Evidence of the link rule, the least of each pair (no program in sight). -/
namespace Go.Proofs.YtfeiiadligkamaaGreat
open Eng Go.Sort
def evB (e f : Evd) : Bool := decide (evCmp e f < 0)
theorem evB_irrefl (e : Evd) : evB e e = false := by
 unfold evB
 rw [decide_eq_false_iff_not, (evCmp_zero e e).2 ⟨rfl, rfl, rfl, rfl⟩]
 omega
theorem evB_neg (e f g : Evd) (h : evB e f = false) (k : evB f g = false) : evB e g = false := by
 unfold evB at *
 rw [decide_eq_false_iff_not] at *
 have h1 := evCmp_neg e f
 have h2 := evCmp_neg f g
 have h3 := evCmp_neg e g
 have := evCmp_trans g f e (by omega) (by omega)
 omega
theorem evB_trans (e f g : Evd) (h : evB e f = true) (k : evB f g = true) : evB e g = true := by
 cases hc : evB e g with
 | true => rfl
 | false =>
  have h1 : evB g f = false := by
   unfold evB at k ⊢
   rw [decide_eq_true_eq] at k
   rw [decide_eq_false_iff_not]
   have := evCmp_neg f g
   omega
  rw [evB_neg _ _ _ hc h1] at h
  cases h
theorem evsLt_swo : SWO evsLt := by
 refine ⟨fun x => evB_irrefl x.e, fun x y z h k => evB_trans _ _ _ h k, fun x y z h k => evB_neg _ _ _ h k⟩
section
variable {α : Type} {key : α → Par} {lt : α → α → Bool}
theorem BestI.cover {C C' : α → Prop} {X : List α} (hn : ∀ x y z, lt x y = false → lt y z = false → lt x z = false) (h : BestI key lt C X) (h1 : ∀ x, C x → C' x) (h2 : ∀ x, C' x → ∃ x', C x' ∧ key x' = key x ∧ lt x x' = false) : BestI key lt C' X := by
 refine ⟨h.nodup, fun e he => ⟨h1 e (h.each e he).1, fun x hx hk => ?_⟩, fun x hx => ?_⟩
 ·obtain ⟨x', hx', hk', hlt⟩ := h2 x hx
  exact hn _ _ _ hlt ((h.each e he).2 x' hx' (hk'.trans hk))
 ·obtain ⟨x', hx', hk', _⟩ := h2 x hx
  obtain ⟨e, he, hk⟩ := h.all x' hx'
  exact ⟨e, he, hk.trans hk'⟩
end
def IdsOf (l ids : List Idn) : Prop := (ids.Pairwise fun x y => idnLt x y = true) ∧ ∀ d, d ∈ ids ↔ d ∈ l
theorem idn_asc_unique : ∀ {l m : List Idn}, (l.Pairwise fun x y => idnLt x y = true) → (m.Pairwise fun x y => idnLt x y = true) → (∀ d, d ∈ l ↔ d ∈ m) → l = m
 | [], [], _, _, _ => rfl
 | [], y :: m, _, _, h => by have := (h y).2 (by simp); cases this
 | x :: l, [], _, _, h => by have := (h x).1 (by simp); cases this
 | x :: l, y :: m, hl, hm, h => by
  have h1 := List.pairwise_cons.1 hl
  have h2 := List.pairwise_cons.1 hm
  have hxy : x = y := by
   rcases List.mem_cons.1 ((h x).1 (by simp)) with e | e
   ·exact e
   ·rcases List.mem_cons.1 ((h y).2 (by simp)) with e' | e'
    ·exact e'.symm
    ·have := idnLt_trans _ _ _ (h2.1 x e) (h1.1 y e')
     rw [idnLt_irrefl] at this; cases this
  subst hxy
  congr 1
  refine idn_asc_unique h1.2 h2.2 fun p => ⟨fun hp => ?_, fun hp => ?_⟩
  ·rcases List.mem_cons.1 ((h p).1 (List.mem_cons_of_mem _ hp)) with e | e
   ·subst e
    have := h1.1 p hp
    rw [idnLt_irrefl] at this; cases this
   ·exact e
  ·rcases List.mem_cons.1 ((h p).2 (List.mem_cons_of_mem _ hp)) with e | e
   ·subst e
    have := h2.1 p hp
    rw [idnLt_irrefl] at this; cases this
   ·exact e
theorem IdsOf.unique {l ids ids' : List Idn} (h : IdsOf l ids) (k : IdsOf l ids') : ids = ids' := idn_asc_unique h.1 k.1 fun d => (h.2 d).trans (k.2 d).symm
def MatE (a b c : Idn) (fr mt : Int) (e : Evd) : Prop := e.kind = 2 ∧ e.a = min fr mt ∧ e.b = max fr mt ∧ IdsOf [a, b, c] e.ids
theorem MatE.pr {a b c : Idn} {fr mt : Int} {e : Evd} (h : MatE a b c fr mt e) : e.pr = ⟨min fr mt, max fr mt⟩ := by
 unfold Evd.pr; rw [h.2.1, h.2.2.1]
theorem ids_last {a b c : Idn} (h1 : idnLt a c = true) (h2 : idnLt b c = true) : ∃ s : List Idn, (∀ d, d ∈ s ↔ d = a ∨ d = b) ∧ (s.Pairwise fun x y => idnLt x y = true) := by
 rcases idnLt_total a b with h | h | h
 ·exact ⟨[a, b], fun d => by simp, by simp [h]⟩
 ·subst h; exact ⟨[a], fun d => by simp, by simp⟩
 ·exact ⟨[b, a], fun d => by simp [or_comm], by simp [h]⟩
theorem cmpIds_app : ∀ (s l m : List Idn), cmpIds (s ++ l) (s ++ m) = cmpIds l m
 | [], l, m => rfl
 | x :: s, l, m => by
  rw [List.cons_append, List.cons_append, cmpIds, if_neg (by rw [idnCmpI_zero.2 rfl]; simp), cmpIds_app s l m]
theorem mat_later {a b c c' : Idn} {fr mt : Int} {e e' : Evd} (h1 : idnLt a c = true) (h2 : idnLt b c = true) (hcc : idnLt c' c = false) (he : MatE a b c fr mt e) (he' : MatE a b c' fr mt e') : evB e' e = false := by
 obtain ⟨s, hs, hsp⟩ := ids_last h1 h2
 have hlt : ∀ x y, idnLt x c = true → (x = y ∨ idnLt x y = true) → True := fun _ _ _ _ => trivial
 have hcc' : ∀ x, idnLt x c = true → idnLt x c' = true := fun x hx => by
  rcases idnLt_total c c' with h | h | h
  ·exact idnLt_trans _ _ _ hx h
  ·rw [← h]; exact hx
  ·rw [hcc] at h; cases h
 have mk : ∀ d, idnLt a d = true → idnLt b d = true → IdsOf [a, b, d] (s ++ [d]) := fun d ha hb => by
  refine ⟨?_, fun x => ?_⟩
  ·rw [List.pairwise_append]
   refine ⟨hsp, by simp, fun x hx y hy => ?_⟩
   rw [List.mem_singleton] at hy
   subst hy
   rcases (hs x).1 hx with rfl | rfl
   ·exact ha
   ·exact hb
  ·rw [List.mem_append, hs x]
   simp [or_assoc]
 have e1 := he.2.2.2.unique (mk c h1 h2)
 have e2 := he'.2.2.2.unique (mk c' (hcc' a h1) (hcc' b h2))
 unfold evB
 rw [decide_eq_false_iff_not, evCmp_lex, he.1, he'.1, he.2.1, he'.2.1, he.2.2.1, he'.2.2.1, ordI_zero.2 rfl, ordI_zero.2 rfl, ordI_zero.2 rfl, e1, e2, cmpIds_app]
 unfold lex3
 simp only [ne_eq, not_true_eq_false, if_false, cmpIds]
 unfold idnLt at hcc
 rw [decide_eq_false_iff_not] at hcc
 split
 ·exact hcc
 ·omega
end Go.Proofs.YtfeiiadligkamaaGreat


/- The groups of one trace, episode and flow, by the evaluator: exclusion.flows. -/
namespace Go.Proofs.YtfeiiadligkamaaGreat
open Go.Sort Eng
structure Fg where
 rs : List Res
 a : Option Addr
 cap : Nat
instance : Inhabited Fg := ⟨⟨[], none, 0⟩⟩
def Fg.row (g : Fg) : Eng.Own := resRow g.a g.rs.length g.cap g.rs.toArray
def fgRd (gs : List Fg) : Nat → Nat → SV := fun i _ => .os 0 (gs.getD i default).a (gs.getD i default).rs.length (gs.getD i default).cap
def fgRow (a : Option Addr) (cap : Nat) (gs : List Fg) : Eng.Own := .row a 23 gs.length cap 1 (fgRd gs)
theorem fg_one (gs : List Fg) (i j : Nat) (_ : j < 1) : oneS (fgRd gs i j) = true := rfl
def fgS (gs : List Fg) : Nat → Nat → SV := fun i _ => .sl (gs.getD i default).a (gs.getD i default).rs.length (gs.getD i default).cap 17 (resRd (gs.getD i default).rs.toArray)
theorem fB_ex : ∃ f : Nat → Nat → Nat, (∀ i k, f i k + 512 ≤ f i (k + 1)) ∧ (∀ i k, k ≤ 1000 → f i k ≤ f (i + 1) 0) ∧ (∀ i k, i ≤ 512 → k ≤ 1000 → f i k ≤ 262656000) := by
 refine ⟨fun i k => 512000 * i + 512 * k, fun i k => ?_, fun i k h => ?_, fun i k h1 h2 => ?_⟩ <;> simp only <;> omega
noncomputable def fB : Nat → Nat → Nat := Classical.choose fB_ex
theorem fB_k {i k n m : Nat} (h : n ≤ fB i k + m) (hm : m ≤ 512) : n ≤ fB i (k + 1) := by
 have := (Classical.choose_spec fB_ex).1 i k
 unfold fB at h ⊢
 omega
theorem fB_i {i k n : Nat} (h : n ≤ fB i k) (hk : k ≤ 1000) : n ≤ fB (i + 1) 0 := Nat.le_trans h ((Classical.choose_spec fB_ex).2.1 i k hk)
theorem fB_le {i k : Nat} (h1 : i ≤ 512) (h2 : k ≤ 1000) : fB i k ≤ 262656000 := (Classical.choose_spec fB_ex).2.2 i k h1 h2
namespace Eng
theorem Sat.toSlot {P : Program} {F : Frm} {n : Nat} {env : List (Nat × SV)} {c : Code} {K : Exit → St → Prop} {g m x : Own} {T : List Own} (h : Sat P F c ⟨n, env, g :: m :: x :: T⟩ K) : Sat P F c ⟨n, env, g :: m :: .gone :: (T ++ [x])⟩ K := by
 refine Sat.reown (fun j => if j = 2 then T.length + 3 else j) (fun j o ho => ?_) (fun i j o o' hij ho ho' _ _ e => ?_) h
 ·match j, ho with
  | 0, ho => exact .inr (by simpa using ho)
  | 1, ho => exact .inr (by simpa using ho)
  | 2, ho =>
   refine .inr ?_
   simp only [if_pos, List.getElem?_cons_succ, List.getElem?_concat_length]
   simpa using ho
  | j + 3, ho =>
   refine .inr ?_
   rw [if_neg (by omega)]
   simp only [List.getElem?_cons_succ] at ho ⊢
   rw [List.getElem?_append_left (List.getElem?_eq_some_iff.1 ho).1]
   exact ho
 ·have hi := (List.getElem?_eq_some_iff.1 ho).1
  have hj := (List.getElem?_eq_some_iff.1 ho').1
  simp only [List.length_cons] at hi hj
  split at e <;> split at e <;> omega
end Eng
set_option maxHeartbeats 2000000 in
set_option maxRecDepth 100000 in
theorem flowsC (F : Frm) (ad : Option Addr) (cap : Nat) (xs : List Res) (hl : xs.length ≤ 512) (hin : ∀ r ∈ xs, RgR r) :
  Contract F Tryz.prog 45 [.sl ad xs.length cap 17 (resRd xs.toArray)] (fun r => ∃ a cap gs, FlowsOf xs (gs.map Fg.rs) ∧ gs.length ≤ 1000000000 ∧ (∀ g ∈ gs, g.rs.length ≤ 1000000000) ∧ r = .sl a gs.length cap 1 (fgS gs)) := by
 refine contract_of Tryz.func45 rfl (by kernel_rfl) ?_
 simp only [Tryz.ntmps45, argEnv]
 (repeat refine Sat.seq ?_)
 (refine Sat.region_k fun k hk => ?_; simp -implicitDefEqProofs only [evr, id, seval, tre_eql, res_one, tre_one, treRow, tre_ro, resRow, res_ro, tl_get, tl_set, ep_one, evn]; refine hk _ ?_; clear hk k; try show Sat _ _ _ _ _)
 (repeat refine Sat.seq ?_)
 (refine Sat.region_k fun k hk => ?_; simp -implicitDefEqProofs only [evr, id, seval, tre_eql, res_one, tre_one, treRow, tre_ro, resRow, res_ro, tl_get, tl_set, ep_one, evn]; refine hk _ ?_; clear hk k; try show Sat _ _ _ _ _)
 (repeat refine Sat.seq ?_)
 (refine Sat.region_k fun k hk => ?_; simp -implicitDefEqProofs only [evr, id, seval, tre_eql, res_one, tre_one, treRow, tre_ro, resRow, res_ro, tl_get, tl_set, ep_one, evn])
 refine wcall_new (tracesC F ad cap xs (by omega)) rfl rfl ?_
 rintro ra ty len rc sz rrd ⟨ta, tc, ts, hts, htl, e⟩
 simp only [treRow, Eng.Own.row.injEq] at e
 obtain ⟨rfl, rfl, rfl, rfl, rfl, rfl⟩ := e
 simp -implicitDefEqProofs only [evr, id, seval, tre_eql, res_one, tre_one, treRow, tre_ro, resRow, res_ro, tl_get, tl_set, ep_one, evn]
 (refine hk _ ?_; clear hk k; try show Sat _ _ _ _ _)
 refine Sat.settle2 17 rfl rfl ?_
 simp -implicitDefEqProofs only [evr, id, seval, tre_eql, res_one, tre_one, treRow, tre_ro, resRow, res_ro, tl_get, tl_set, ep_one, evn]
 refine Sat.reown (own' := [.gone, .gone, .gone]) id (fun i o ho => .inl (by
  match i, ho with
  | 0, ho => simpa using ho.symm
  | 1, ho => simpa using ho.symm
  | 2, ho => simpa using ho.symm
  | i + 3, ho => simp at ho)) (fun i j _ _ hij _ _ _ _ => hij) ?_
 refine Sat.nilAt 1 23 1 (fgRd []) rfl ?_
 refine Sat.redo 3 (.os 1 none 0 0) rfl rfl (fun _ _ => trivial) ?_
 simp only [List.set_cons_succ, List.set_cons_zero]
 (repeat refine Sat.seq ?_)
 refine Sat.block ?_
 refine Sat.loop (ι := Nat × List Fg × Option Addr × Nat) (fun z => ⟨84, [(19, .i .i64 z.1), (3, .os 1 z.2.2.1 z.2.1.length z.2.2.2), (18, .i .i64 ts.length), (17, .sl ra ts.length rc 3 (treRd ts.toArray)), (0, .sl ad xs.length cap 17 (resRd xs.toArray))],
   .gone :: fgRow z.2.2.1 z.2.2.2 z.2.1 :: .gone :: z.2.1.map Fg.row⟩)
  (fun z => z.1 ≤ ts.length ∧ FlowsI xs (fun p => ∃ t ∈ ts.take z.1, IsPartT xs t p) (z.2.1.map Fg.rs) ∧ z.2.1.length ≤ fB z.1 0 ∧ ∀ g ∈ z.2.1, g.rs.length ≤ fB z.1 0) (fun z => ts.length - z.1) (0, [], none, 0)
  ⟨Nat.zero_le _, ⟨fun g hg => (by cases hg), fun p hp => by obtain ⟨t, ht, _⟩ := hp; cases ht⟩, Nat.zero_le _, fun g hg => (by cases hg)⟩ (by simp only [fgRow]; simp -implicitDefEqProofs only [evr, id, seval, tre_eql, res_one, tre_one, treRow, tre_ro, resRow, res_ro, tl_get, tl_set, ep_one, evl, evn]; try rfl) ?_
 rintro ⟨i, gs, oa, oc⟩ ⟨hi, hF, hgl, hgr⟩
 simp only at hi hF hgl hgr ⊢
 obtain ⟨T, hTd⟩ : ∃ T, T = gs.map Fg.row := ⟨_, rfl⟩
 rw [← hTd]
 have hTl : T.length = gs.length := by rw [hTd, List.length_map]
 simp only [fgRow]
 (repeat refine Sat.seq ?_)
 (refine Sat.region_k fun k hk => ?_; simp -implicitDefEqProofs only [evr, id, seval, tre_eql, res_one, tre_one, treRow, tre_ro, resRow, res_ro, tl_get, tl_set, ep_one, evn]; refine hk _ ?_; clear hk k; try show Sat _ _ _ _ _)
 (repeat refine Sat.seq ?_)
 refine Sat.cond_b rfl (fun h => ?_) (fun h => ?_)
 ·have h1 : i < ts.length := by simp only [decide_eq_true_eq] at h; omega
  have e1 : IntKind.i64.wrap ((i : Int) + 1) = ((i + 1 : Nat) : Int) := by rw [w64 (by omega)]; omega
  refine Sat.skip ?_
  simp only [thenK]
  (repeat refine Sat.seq ?_)
  refine Sat.block ?_
  (repeat refine Sat.seq ?_)
  (refine Sat.region_k fun k hk => ?_; simp -implicitDefEqProofs only [evr, id, seval, tre_eql, res_one, tre_one, treRow, tre_ro, resRow, res_ro, tl_get, tl_set, ep_one, evn])
  refine ⟨by omega, fun b5 => ?_⟩
  (refine hk _ ?_; clear hk k; try show Sat _ _ _ _ _)
  refine Sat.settleLast (.gone :: .row oa 23 gs.length oc 1 (fgRd gs) :: .gone :: T) 5 rfl ?_
  try simp only [List.length_cons, List.length_nil]
  obtain ⟨t, ht⟩ : ∃ t, t = ts.toArray[i]! := ⟨_, rfl⟩
  (repeat refine Sat.seq ?_)
  (refine Sat.region_k fun k hk => ?_; simp -implicitDefEqProofs only [evr, id, seval, tre_eql, res_one, tre_one, treRow, tre_ro, resRow, res_ro, tl_get, tl_set, ep_one, evn])
  refine wcall_new (pthOfC F ad cap xs t (by omega) hin) rfl (by rw [ht]; rfl) ?_
  rintro ra1 ty1 len1 rc1 sz1 rrd1 ⟨za, zc, ys, ho, hyl, e⟩
  obtain ⟨zs, hzs⟩ : ∃ zs, zs = ofT ys t := ⟨_, rfl⟩
  have hzs2 : ys.filter (isTre t) = zs := hzs.symm
  rw [hzs2] at e
  simp only [resRow, Eng.Own.row.injEq] at e
  obtain ⟨rfl, rfl, rfl, rfl, rfl, rfl⟩ := e
  simp -implicitDefEqProofs only [evr, id, seval, tre_eql, res_one, tre_one, treRow, tre_ro, resRow, res_ro, tl_get, tl_set, ep_one, evn]
  (refine hk _ ?_; clear hk k; try show Sat _ _ _ _ _)
  refine Sat.settleLastRow (.gone :: .row oa 23 gs.length oc 1 (fgRd gs) :: .gone :: T) 6 rfl ?_
  try simp only [List.length_cons, List.length_nil]
  have hzl : zs.length ≤ 512 := by rw [hzs]; unfold ofT; have := List.length_filter_le (isTre t) ys; omega
  have hzv : ∀ r ∈ zs, r ∈ xs ∧ validR r = true ∧ r.tre = t := fun r hr => by
   rw [hzs] at hr
   obtain ⟨h1, h2⟩ := List.mem_filter.1 hr
   obtain ⟨h3, h4⟩ := (ho.2 r).1 h1
   unfold isTre at h2
   exact ⟨h3, h4, of_decide_eq_true h2⟩
  have hzasc : Asc zs := by rw [hzs]; exact ho.1.filter _
  (repeat refine Sat.seq ?_)
  (refine Sat.region_k fun k hk => ?_; simp -implicitDefEqProofs only [evr, id, seval, tre_eql, res_one, tre_one, treRow, tre_ro, resRow, res_ro, tl_get, tl_set, ep_one, evn])
  refine wcall_slice (cutC F ra1 rc1 zs (by omega) (fun r hr => hin r (hzv r hr).1)) rfl rfl ?_
  rintro _ ⟨ca, cc, l, e, hcr, hll, rfl⟩
  have hcut : cutsOf zs l := by
   rcases hcr with ⟨_, _, x, hx, hv⟩ | ⟨_, ys', ho', hcr⟩
   ·rw [(hzv x hx).2.1] at hv; cases hv
   ·obtain rfl := (OrdOf.self hzasc fun r hr => (hzv r hr).2.1).unique ho'
    rcases hcr with ⟨_, _, h9⟩ | ⟨_, _, _, h9⟩ | ⟨_, _, _, h9⟩
    ·omega
    ·exact absurd (fun r hr s hs => by rw [(hzv r hr).2.2, (hzv s hs).2.2]) h9
    ·exact h9
  simp only [tupL, evr, id, seval, tre_eql, res_one, tre_one, treRow, tre_ro, List.append_nil, Int.toNat_zero, Nat.sub_self, Int.reduceToNat, resRow, res_ro, tl_get, tl_set, ep_one]
  (refine hk _ ?_; clear hk k; try show Sat _ _ _ _ _)
  (repeat refine Sat.seq ?_)
  (refine Sat.region_k fun k hk => ?_; simp -implicitDefEqProofs only [evr, id, seval, tre_eql, res_one, tre_one, treRow, tre_ro, resRow, res_ro, tl_get, tl_set, ep_one, evn]; refine hk _ ?_; clear hk k; try show Sat _ _ _ _ _)
  (repeat refine Sat.seq ?_)
  refine Sat.block ?_
  refine Sat.loop (ι := Nat × List Fg × Option Addr × Nat) (fun z => ⟨84, [(33, .i .i64 z.1), (3, .os 1 z.2.2.1 z.2.1.length z.2.2.2), (32, .i .i64 l.length), (31, .sl ca l.length cc 2 (epRd l)), (6, .sl ra1 zs.length rc1 17 (resRd zs.toArray)), (19, .i .i64 i), (18, .i .i64 ts.length), (17, .sl ra ts.length rc 3 (treRd ts.toArray)), (0, .sl ad xs.length cap 17 (resRd xs.toArray))],
    .gone :: fgRow z.2.2.1 z.2.2.2 z.2.1 :: .gone :: z.2.1.map Fg.row⟩)
   (fun z => z.1 ≤ l.length ∧ FlowsI xs (fun p => (∃ t ∈ ts.take i, IsPartT xs t p) ∨ ∃ c ∈ l.take z.1, p = cutL zs c) (z.2.1.map Fg.rs) ∧ z.2.1.length ≤ fB i z.1 ∧ ∀ g ∈ z.2.1, g.rs.length ≤ fB i z.1) (fun z => l.length - z.1) (0, gs, oa, oc)
   ⟨Nat.zero_le _, hF.mono (fun p hp => hp.elim id fun ⟨c, hc, _⟩ => by cases hc), hgl, hgr⟩ (by simp only [fgRow]; rw [← hTd]; simp -implicitDefEqProofs only [evr, id, seval, tre_eql, res_one, tre_one, treRow, tre_ro, resRow, res_ro, tl_get, tl_set, ep_one, evl, evn]; try exact ownLe_refl _) ?_
  clear hF hgl hgr hTd hTl T
  rintro ⟨k, gs, oa, oc⟩ ⟨hk2, hF, hgl, hgr⟩
  simp only at hk2 hF hgl hgr ⊢
  obtain ⟨T, hTd⟩ : ∃ T, T = gs.map Fg.row := ⟨_, rfl⟩
  rw [← hTd]
  have hTl : T.length = gs.length := by rw [hTd, List.length_map]
  simp only [fgRow]
  (repeat refine Sat.seq ?_)
  (refine Sat.region_k fun k hk => ?_; simp -implicitDefEqProofs only [evr, id, seval, tre_eql, res_one, tre_one, treRow, tre_ro, resRow, res_ro, tl_get, tl_set, ep_one, evn]; refine hk _ ?_; clear hk k; try show Sat _ _ _ _ _)
  (repeat refine Sat.seq ?_)
  refine Sat.cond_b rfl (fun h => ?_) (fun h => ?_)
  ·have h2 : k < l.length := by simp only [decide_eq_true_eq] at h; omega
   have e2 : IntKind.i64.wrap ((k : Int) + 1) = ((k + 1 : Nat) : Int) := by rw [w64 (by omega)]; omega
   refine Sat.skip ?_
   simp only [thenK]
   (repeat refine Sat.seq ?_)
   refine Sat.block ?_
   (repeat refine Sat.seq ?_)
   (refine Sat.region_k fun k hk => ?_; simp -implicitDefEqProofs only [evr, id, seval, tre_eql, res_one, tre_one, treRow, tre_ro, resRow, res_ro, tl_get, tl_set, ep_one, evn])
   refine ⟨by omega, fun b10 => ?_⟩
   (refine hk _ ?_; clear hk k; try show Sat _ _ _ _ _)
   refine Sat.settleLast (.gone :: .row oa 23 gs.length oc 1 (fgRd gs) :: .gone :: T) 10 rfl ?_
   try simp only [List.length_cons, List.length_nil]
   obtain ⟨c, hc⟩ : ∃ c, c = l.getD k (0, 0) := ⟨_, rfl⟩
   have hcl : c ∈ l := by rw [hc, List.getD_eq_getElem?_getD, List.getElem?_eq_getElem h2]; exact List.getElem_mem h2
   obtain ⟨hc1, hc2⟩ := hcut.bounds hcl
   have q0 : epRd l k 0 = .i .i64 (c.1 : Nat) := by rw [hc]; rfl
   have q1 : epRd l k 1 = .i .i64 (c.2 : Nat) := by rw [hc]; rfl
   simp only [q0, q1]
   (repeat refine Sat.seq ?_)
   (refine Sat.region_k fun k hk => ?_; simp -implicitDefEqProofs only [evr, id, seval, tre_eql, res_one, tre_one, treRow, tre_ro, resRow, res_ro, tl_get, tl_set, ep_one, evn])
   refine fun mb => ?_
   (refine hk _ ?_; clear hk k; try show Sat _ _ _ _ _)
   refine Sat.toSlot ?_
   refine Sat.redo 11 (.mp 2 mb) rfl rfl (fun _ _ => trivial) ?_
   (repeat refine Sat.seq ?_)
   (refine Sat.region_k fun k hk => ?_; simp -implicitDefEqProofs only [evr, id, seval, tre_eql, res_one, tre_one, treRow, tre_ro, resRow, res_ro, tl_get, tl_set, ep_one, evn])
   refine ⟨by omega, ?_⟩
   (refine hk _ ?_; clear hk k; try show Sat _ _ _ _ _)
   obtain ⟨p, hp⟩ : ∃ p, p = cutL zs c := ⟨_, rfl⟩
   have hpt : IsPart xs p := ⟨t, by rw [hp, hzs]; exact (IsPartT.iff ho (by rw [← hzs]; exact hcut)).2 ⟨c, hcl, rfl⟩⟩
   obtain ⟨hpl, hpg⟩ := cut_get (Nat.le_of_lt hc1) hc2
   rw [← hp] at hpl hpg
   obtain ⟨pa, hpa⟩ : ∃ pa, pa = (if rc1 = c.fst then ra1 else Option.map (fun x => x.add (c.fst * 17)) ra1) := ⟨_, rfl⟩
   rw [← hpa]
   simp only [← hpl]
   (repeat refine Sat.seq ?_)
   refine Sat.block ?_
   refine Sat.loop (ι := Nat × List Fg × (Option Addr × Nat) × (List Int → Option Int)) (fun z => ⟨84, [(45, .i .i64 z.1), (11, .mp 2 mb), (3, .os 1 z.2.2.1.1 z.2.1.length z.2.2.1.2), (44, .i .i64 p.length), (43, .sl pa p.length (rc1 - c.1) 17 fun i j => resRd zs.toArray (c.1 + i) j), (33, .i .i64 k), (32, .i .i64 l.length), (31, .sl ca l.length cc 2 (epRd l)), (6, .sl ra1 zs.length rc1 17 (resRd zs.toArray)), (19, .i .i64 i), (18, .i .i64 ts.length), (17, .sl ra ts.length rc 3 (treRd ts.toArray)), (0, .sl ad xs.length cap 17 (resRd xs.toArray))],
     .gone :: fgRow z.2.2.1.1 z.2.2.1.2 z.2.1 :: .mp mb true [.i64] .i64 z.2.2.2 :: z.2.1.map Fg.row⟩)
    (fun z => z.1 ≤ p.length ∧ FlowsJ xs (fun p => (∃ t ∈ ts.take i, IsPartT xs t p) ∨ ∃ c ∈ l.take k, p = cutL zs c) p (p.take z.1) z.2.2.2 (z.2.1.map Fg.rs) ∧ z.2.1.length ≤ fB i k + z.1 ∧ ∀ g ∈ z.2.1, g.rs.length ≤ fB i k + z.1) (fun z => p.length - z.1) (0, gs, (oa, oc), fun _ => none)
    ⟨Nat.zero_le _, hF.start p, Nat.le_trans hgl (Nat.le_add_right _ _), fun g hg => Nat.le_trans (hgr g hg) (Nat.le_add_right _ _)⟩ (by simp only [fgRow]; rw [← hTd]; simp -implicitDefEqProofs only [evr, id, seval, tre_eql, res_one, tre_one, treRow, tre_ro, resRow, res_ro, tl_get, tl_set, ep_one, evl, evn]; exact ownLe_refl _) ?_
   clear hF hgl hgr hTd hTl T
   rintro ⟨j, gs, ⟨oa, oc⟩, f⟩ ⟨hj, hF, hgl, hgr⟩
   simp only at hj hF hgl hgr ⊢
   obtain ⟨T, hTd⟩ : ∃ T, T = gs.map Fg.row := ⟨_, rfl⟩
   rw [← hTd]
   have hTl : T.length = gs.length := by rw [hTd, List.length_map]
   simp only [fgRow]
   (repeat refine Sat.seq ?_)
   (refine Sat.region_k fun k hk => ?_; simp -implicitDefEqProofs only [evr, id, seval, tre_eql, res_one, tre_one, treRow, tre_ro, resRow, res_ro, tl_get, tl_set, ep_one, evn]; refine hk _ ?_; clear hk k; try show Sat _ _ _ _ _)
   (repeat refine Sat.seq ?_)
   refine Sat.cond_b rfl (fun h => ?_) (fun h => ?_)
   ·have h3 : j < p.length := by simp only [decide_eq_true_eq] at h; omega
    have e3 : IntKind.i64.wrap ((j : Int) + 1) = ((j + 1 : Nat) : Int) := by rw [w64 (by omega)]; omega
    obtain ⟨r, hr⟩ : ∃ r, r = zs.toArray[c.1 + j]! := ⟨_, rfl⟩
    have hrp : p[j]'h3 = r := by
     have h9 := hpg j (by omega)
     rw [List.getElem?_eq_getElem h3, List.getElem?_eq_getElem (show c.1 + j < zs.length by omega)] at h9
     rw [hr, getB (show c.1 + j < zs.length by omega)]
     simpa using h9
    have htk : p.take (j + 1) = p.take j ++ [r] := by rw [List.take_succ_eq_append_getElem h3, hrp]
    have hrm : r ∈ p := by rw [← hrp]; exact List.getElem_mem h3
    refine Sat.skip ?_
    simp only [thenK]
    (repeat refine Sat.seq ?_)
    refine Sat.block ?_
    (repeat refine Sat.seq ?_)
    (refine Sat.region_k fun k hk => ?_; simp -implicitDefEqProofs only [evr, id, seval, tre_eql, res_one, tre_one, treRow, tre_ro, resRow, res_ro, tl_get, tl_set, ep_one, evn])
    refine ⟨by omega, fun b13 => ?_⟩
    (refine hk _ ?_; clear hk k; try show Sat _ _ _ _ _)
    refine Sat.settleLast (.gone :: .row oa 23 gs.length oc 1 (fgRd gs) :: .mp mb true [.i64] .i64 f :: T) 13 rfl ?_
    try simp only [List.length_cons, List.length_nil]
    (repeat refine Sat.seq ?_)
    (refine Sat.region_k fun k hk => ?_; simp -implicitDefEqProofs only [evr, id, seval, tre_eql, res_one, tre_one, treRow, tre_ro, resRow, res_ro, tl_get, tl_set, ep_one, evn])
    refine wcall_plain (wayC F zs.toArray[c.1 + j]!) rfl (by rintro _ rfl; exact ok_plain rfl) ?_
    rintro _ rfl
    rw [← hr]
    simp -implicitDefEqProofs only [evr, id, seval, tre_eql, res_one, tre_one, treRow, tre_ro, resRow, res_ro, tl_get, tl_set, ep_one, evn]
    (refine hk _ ?_; clear hk k; try show Sat _ _ _ _ _)
    (repeat refine Sat.seq ?_)
    refine Sat.cond_b rfl (fun h4 => ?_) (fun h4 => ?_)
    ·have hw : wayR r = false := by simpa using h4
     refine Sat.exit ?_
     simp only [thenK, blockK, reduceIte]
     refine Sat.region_k fun kk hk => ?_
     simp -implicitDefEqProofs only [evr, id, seval, tre_eql, res_one, tre_one, treRow, tre_ro, resRow, res_ro, tl_get, tl_set, ep_one, e3, evn]
     refine hk _ ?_
     simp only [thenK, blockK]
     refine ⟨(j + 1, gs, (oa, oc), f), ⟨by simp only; omega, by rw [htk]; exact hF.skip hw, Nat.le_succ_of_le hgl, fun g hg => Nat.le_succ_of_le (hgr g hg)⟩, by simp only; omega, ?_⟩
     simp only [fgRow]
     rw [← hTd]
     simp -implicitDefEqProofs only [evr, id, seval, tre_eql, res_one, tre_one, treRow, tre_ro, resRow, res_ro, tl_get, tl_set, ep_one, evl, evn]
     exact ownLe_refl _
    have hw : wayR r = true := by simpa using h4
    refine Sat.skip ?_
    simp only [thenK]
    (repeat refine Sat.seq ?_)
    have q6 : resRd zs.toArray (c.1 + j) 6 = .i .i64 r.flow := by rw [hr]; rfl
    obtain ⟨el, hel⟩ : ∃ el, el = SV.el ⟨b13, 0, none⟩ 17 fun j => (Res.cs r).getD j default := ⟨_, rfl⟩
    refine Sat.atF (ι := Option Int) (fun z => ⟨84, [(14, .i .i64 (z.getD 0)), (15, .b z.isSome), (13, el), (45, .i .i64 j), (11, .mp 2 mb), (3, .os 1 oa gs.length oc), (44, .i .i64 p.length), (43, .sl pa p.length (rc1 - c.1) 17 fun i j => resRd zs.toArray (c.1 + i) j), (33, .i .i64 k), (32, .i .i64 l.length), (31, .sl ca l.length cc 2 (epRd l)), (6, .sl ra1 zs.length rc1 17 (resRd zs.toArray)), (19, .i .i64 i), (18, .i .i64 ts.length), (17, .sl ra ts.length rc 3 (treRd ts.toArray)), (0, .sl ad xs.length cap 17 (resRd xs.toArray))],
     .gone :: .row oa 23 gs.length oc 1 (fgRd gs) :: .mp mb true [.i64] .i64 f :: T⟩) (fun z => f [r.flow] = z) ?_ ?_
    ·(refine Sat.region_k fun k hk => ?_; simp -implicitDefEqProofs only [evr, id, seval, tre_eql, res_one, tre_one, treRow, tre_ro, resRow, res_ro, tl_get, tl_set, ep_one, evn])
     simp only [q6, evr, id, seval, tre_eql, res_one, tre_one, treRow, tre_ro, List.append_nil, Int.toNat_zero, Nat.sub_self, Int.reduceToNat, resRow, res_ro, tl_get, tl_set, ep_one]
     refine ⟨fun v hv => hk _ ?_, fun hv => hk _ ?_⟩
     ·simp only [thenK]
      refine ⟨some v, hv, ?_⟩
      simp only [Option.isSome_some, Option.getD_some]
      rw [hel]
      simp -implicitDefEqProofs only [evr, id, seval, tre_eql, res_one, tre_one, treRow, tre_ro, resRow, res_ro, tl_get, tl_set, ep_one, evl, evn]
      exact ⟨by rw [hr]; rfl, ownLe_refl _⟩
     ·simp only [thenK]
      refine ⟨none, hv, ?_⟩
      simp only [Option.isSome_none, Option.getD_none]
      rw [hel]
      simp -implicitDefEqProofs only [evr, id, seval, tre_eql, res_one, tre_one, treRow, tre_ro, resRow, res_ro, tl_get, tl_set, ep_one, evl, evn]
      exact ⟨by rw [hr]; rfl, ownLe_refl _⟩
    intro z hz
    simp only [thenK]
    (repeat refine Sat.seq ?_)
    (refine Sat.region_k fun k hk => ?_; simp -implicitDefEqProofs only [evr, id, seval, tre_eql, res_one, tre_one, treRow, tre_ro, resRow, res_ro, tl_get, tl_set, ep_one, evn]; refine hk _ ?_; clear hk k; try show Sat _ _ _ _ _)
    (repeat refine Sat.seq ?_)
    have hT2 : mapT Tryz.prog 131 = some (true, [.i64], .i64) := by kernel_rfl
    refine Sat.joinK (ι := Nat × List Fg × (Option Addr × Nat) × (List Int → Option Int)) (fun w => ⟨84, [(14, .i .i64 w.1), (13, el), (45, .i .i64 j), (11, .mp 2 mb), (3, .os 1 w.2.2.1.1 w.2.1.length w.2.2.1.2), (44, .i .i64 p.length), (43, .sl pa p.length (rc1 - c.1) 17 fun i j => resRd zs.toArray (c.1 + i) j), (33, .i .i64 k), (32, .i .i64 l.length), (31, .sl ca l.length cc 2 (epRd l)), (6, .sl ra1 zs.length rc1 17 (resRd zs.toArray)), (19, .i .i64 i), (18, .i .i64 ts.length), (17, .sl ra ts.length rc 3 (treRd ts.toArray)), (0, .sl ad xs.length cap 17 (resRd xs.toArray))],
     .gone :: .row w.2.2.1.1 23 w.2.1.length w.2.2.1.2 1 (fgRd w.2.1) :: .mp mb true [.i64] .i64 w.2.2.2 :: w.2.1.map Fg.row⟩)
     (fun w => w.1 < w.2.1.length ∧ (∀ a2 c2, FlowsJ xs (fun p => (∃ t ∈ ts.take i, IsPartT xs t p) ∨ ∃ c ∈ l.take k, p = cutL zs c) p (p.take (j + 1)) w.2.2.2 ((w.2.1.set w.1 ⟨(w.2.1.getD w.1 default).rs ++ [r], a2, c2⟩).map Fg.rs)) ∧ w.2.1.length ≤ fB i k + (j + 1) ∧ ∀ g ∈ w.2.1, g.rs.length ≤ fB i k + j) (fun hrest => ?_) ?_
    ·refine Sat.cond_b rfl (fun h5 => ?_) (fun h5 => ?_)
     ·have hzn : f [r.flow] = none := by rw [hz]; simpa using h5
      have hzn0 : z = none := by simpa using h5
      subst hzn0
      have hb9 := fB_le (i := i) (k := k) (by omega) (by omega)
      (repeat refine Sat.seq ?_)
      (refine Sat.region_k fun k hk => ?_; simp -implicitDefEqProofs only [evr, id, seval, tre_eql, res_one, tre_one, treRow, tre_ro, resRow, res_ro, tl_get, tl_set, ep_one, evn]; refine hk _ ?_; clear hk k; try show Sat _ _ _ _ _)
      (repeat refine Sat.seq ?_)
      rw [hel]
      simp only [Res.cs]
      (refine Sat.region_k fun k hk => ?_; simp -implicitDefEqProofs only [evr, id, seval, tre_eql, res_one, tre_one, treRow, tre_ro, resRow, res_ro, tl_get, tl_set, ep_one, evn])
      (refine hk _ ?_; clear hk k; try show Sat _ _ _ _ _)
      (refine Sat.region_k fun k hk => ?_; simp -implicitDefEqProofs only [evr, id, seval, tre_eql, res_one, tre_one, treRow, tre_ro, resRow, res_ro, tl_get, tl_set, ep_one, evn])
      refine fun bl => ⟨⟨by unfold maxLen; omega, by omega⟩, fun a3 c3 => hk _ ?_⟩
      clear hk k
      simp only [thenK, blockK]
      refine Sat.cutOwn (.gone :: .row a3 23 (gs.length + 1) c3 1 (rdCat gs.length (fgRd gs) (rdL [SV.sl none 0 0 0 fun x x_1 => SV.v undef] 1)) :: .mp mb true [.i64] .i64 (fPut f [r.flow] gs.length) :: T) ?_
      obtain ⟨gs2, hgs2⟩ : ∃ gs2 : List Fg, gs2 = gs ++ [⟨[], none, 0⟩] := ⟨_, rfl⟩
      have hg2l : gs2.length = gs.length + 1 := by rw [hgs2, List.length_append]; rfl
      have hg2o : ∀ q, q < gs.length → gs2.getD q default = gs.getD q default := fun q hq => by
       rw [hgs2, List.getD_eq_getElem?_getD, List.getElem?_append_left hq, List.getD_eq_getElem?_getD]
      have hg2n : gs2.getD gs.length default = ⟨[], none, 0⟩ := by
       rw [hgs2, List.getD_eq_getElem?_getD, List.getElem?_concat_length]; rfl
      refine Sat.reread 1 (fgRd gs2) rfl (fun q w hq hw2 => ?_) ?_
      ·obtain rfl : w = 0 := by omega
       by_cases h9 : q < gs.length
       ·have e9 : rdCat gs.length (fgRd gs) (rdL [SV.sl none 0 0 0 fun x x_1 => SV.v undef] 1) q 0 = fgRd gs2 q 0 := by
         unfold rdCat fgRd; rw [if_pos h9, hg2o q h9]
        rw [e9]
        exact sim_refl _
       ·obtain rfl : q = gs.length := by omega
        have e9 : rdCat gs.length (fgRd gs) (rdL [SV.sl none 0 0 0 fun x x_1 => SV.v undef] 1) gs.length 0 = SV.sl none 0 0 0 fun x x_1 => SV.v undef := by
         unfold rdCat; rw [if_neg (Nat.lt_irrefl _), Nat.sub_self]; rfl
        have e8 : fgRd gs2 gs.length 0 = .os 0 none 0 0 := by unfold fgRd; rw [hg2n]; rfl
        rw [e9, e8]
        exact ⟨rfl, fun _ _ _ => trivial⟩
      refine Sat.nilAt 0 62 17 (resRd #[]) rfl ?_
      simp only [List.set_cons_succ, List.set_cons_zero]
      refine Sat.pushNew (T := .mp mb true [.i64] .i64 (fPut f [r.flow] gs.length) :: T) ?_
      refine (hrest (gs.length, gs2, (a3, c3), fPut f [r.flow] gs.length) ⟨by simp only; omega, fun a2 c2 => ?_, by simp only; omega, fun g hg => ?_⟩).le ?_
      ·have h9 := hF.miss hpt hrm hw hzn
       rw [List.length_map] at h9
       have e9 : (gs2.set gs.length ⟨(gs2.getD gs.length default).rs ++ [r], a2, c2⟩).map Fg.rs = gs.map Fg.rs ++ [[r]] := by
        rw [hg2n, hgs2, List.set_append_right _ _ (Nat.le_refl _), Nat.sub_self, List.map_append]
        rfl
       simp only
       rw [htk, e9]
       exact h9
      ·simp only at hg
       rw [hgs2] at hg
       rcases List.mem_append.1 hg with hg | hg
       ·exact hgr g hg
       ·rw [List.mem_singleton] at hg; subst hg; exact Nat.zero_le _
      ·have e9 : gs2.map Fg.row = T ++ [Fg.row ⟨[], none, 0⟩] := by rw [hgs2, List.map_append, ← hTd]; rfl
       simp only [List.cons_append]
       rw [e9, hg2l]
       simp -implicitDefEqProofs only [evr, id, seval, tre_eql, res_one, tre_one, treRow, tre_ro, resRow, res_ro, tl_get, tl_set, ep_one, evl, evn]
       exact ⟨by rw [hel]; rfl, ownLe_refl _⟩
     ·obtain ⟨v, rfl⟩ : ∃ v, z = some v := by
       cases z with
       | none => simp at h5
       | some v => exact ⟨v, rfl⟩
      obtain ⟨n, rfl, hn, _⟩ := hF.idx _ _ hz
      rw [List.length_map] at hn
      refine Sat.skip ?_
      simp only [thenK, Option.getD_some]
      refine (hrest (n, gs, (oa, oc), f) ⟨hn, fun a2 c2 => ?_, Nat.le_succ_of_le hgl, hgr⟩).le ?_
      ·have h9 := (hF.hit hpt hrm hw hz).2
       rw [htk, List.map_set]
       have e9 : (gs.map Fg.rs).getD n [] = (gs.getD n default).rs := by
        rw [List.getD_eq_getElem?_getD, List.getElem?_map, List.getD_eq_getElem?_getD, List.getElem?_eq_getElem hn]; rfl
       rw [e9] at h9
       exact h9
      ·simp only
       rw [← hTd]
       simp -implicitDefEqProofs only [evr, id, seval, tre_eql, res_one, tre_one, treRow, tre_ro, resRow, res_ro, tl_get, tl_set, ep_one, evl, evn]
       exact ownLe_refl _
    clear hF hgl hgr hTd hTl T
    rintro ⟨n, gs, ⟨oa, oc⟩, f⟩ ⟨hn, hF, hgl, hgr⟩
    simp only at hn hF hgl hgr ⊢
    obtain ⟨T, hTd⟩ : ∃ T, T = gs.map Fg.row := ⟨_, rfl⟩
    rw [← hTd]
    have hTl : T.length = gs.length := by rw [hTd, List.length_map]
    rw [hel]
    simp only [Res.cs]
    obtain ⟨g, hg⟩ : ∃ g, g = gs.getD n default := ⟨_, rfl⟩
    have hgm : g ∈ gs := by rw [hg, List.getD_eq_getElem?_getD, List.getElem?_eq_getElem hn]; exact List.getElem_mem hn
    have hgle := hgr g hgm
    have hb9 := fB_le (i := i) (k := k) (by omega) (by omega)
    have hTn : (Eng.Own.mp mb true [IntKind.i64] .i64 f :: T)[n + 1]? = some g.row := by
     rw [List.getElem?_cons_succ, hTd, List.getElem?_map, List.getElem?_eq_getElem hn, hg, List.getD_eq_getElem?_getD, List.getElem?_eq_getElem hn]; rfl
    refine Sat.pull (n + 1) hTn ?_
    simp only [List.set_cons_succ]
    obtain ⟨T1, hT1⟩ : ∃ T1, T1 = T.set n Eng.Own.gone := ⟨_, rfl⟩
    rw [← hT1]
    simp only [Fg.row]
    have q7 : fgRd gs n 0 = .os 0 g.a g.rs.length g.cap := by rw [hg]; rfl
    (refine Sat.region_tree (.keep [0, 1, 2, 3, 4, 5, 6] [7] (.one 7 (.one 8 (.one 9 (.one 10 .done))))) (by kernel_rfl) (by kernel_rfl) (fun _ _ h => h) fun k hk => ?_; simp only [WOT, List.map_cons, List.map_nil, List.getD_cons_zero, List.getD_cons_succ]; simp -implicitDefEqProofs only [evr, id, seval, tre_eql, res_one, tre_one, treRow, tre_ro, resRow, res_ro, tl_get, tl_set, ep_one, WOT, evn])
    refine ⟨by omega, by omega, fun bs => ⟨by rw [List.take_left], ?_⟩⟩
    simp only [q7, evr, id, seval, tre_eql, res_one, tre_one, treRow, tre_ro, List.append_nil, Int.toNat_zero, Nat.sub_self, Int.reduceToNat, resRow, res_ro, tl_get, tl_set, ep_one]
    refine ⟨⟨by unfold maxLen; omega, by omega⟩, fun a2 c2 => ⟨by omega, hn, hk _ ?_⟩⟩
    clear hk k
    simp only [thenK, blockK]
    refine Sat.cutOwn (.row a2 62 (g.rs.length + 1) c2 17 (rdCat g.rs.length (resRd g.rs.toArray) (rdL (Res.cs r) 17)) :: .row oa 23 gs.length oc 1 (rdSet (fgRd gs) n 0 [SV.os 0 a2 (g.rs.length + 1) c2]) :: .mp mb true [.i64] .i64 f :: T1) ?_
    obtain ⟨g2, hg2⟩ : ∃ g2 : Fg, g2 = ⟨g.rs ++ [r], a2, c2⟩ := ⟨_, rfl⟩
    have hJ := hF a2 c2
    rw [← hg, ← hg2] at hJ
    refine Sat.leOwn (own' := g2.row :: .row oa 23 gs.length oc 1 (rdSet (fgRd gs) n 0 [SV.os 0 a2 (g.rs.length + 1) c2]) :: .mp mb true [.i64] .i64 f :: T1) ⟨by
     subst hg2
     exact ⟨rfl, rfl, by simp, rfl, rfl, by
      exact res_app rfl⟩, own_refl _, own_refl _, ownLe_refl _⟩ ?_
    refine Sat.reread 1 (fgRd (gs.set n g2)) rfl (fun q w hq hw2 => ?_) ?_
    ·obtain rfl : w = 0 := by omega
     unfold rdSet fgRd
     by_cases h9 : q = n
     ·subst h9
      rw [getD_set_self hn, if_pos (by simp), hg2]
      simp only [List.length_append, List.length_singleton]
      exact sim_refl _
     ·rw [getD_set_ne (Ne.symm h9), if_neg (fun h8 => h9 h8.1)]
      exact sim_refl _
    simp only [List.set_cons_succ, List.set_cons_zero]
    refine Sat.push (T := .mp mb true [.i64] .i64 f :: T1) (n + 1) (by rw [List.getElem?_cons_succ, hT1, List.getElem?_set_self (by omega)]) ?_
    simp only [List.set_cons_succ]
    have hTn2 : T1.set n g2.row = (gs.set n g2).map Fg.row := by rw [hT1, List.set_set, hTd, List.map_set]
    rw [hTn2]
    have hsl : (gs.set n g2).length = gs.length := List.length_set
    have hl2 : ∀ g ∈ gs.set n g2, g.rs.length ≤ fB i k + (j + 1) := fun f2 hf => by
     rcases List.mem_or_eq_of_mem_set hf with hf | hf
     ·exact Nat.le_succ_of_le (hgr f2 hf)
     ·rw [hf, hg2]; simp only [List.length_append, List.length_singleton]; omega
    rw [← hsl]
    rw [← hsl] at hgl
    clear hTn2
    generalize gs.set n g2 = fs at hJ hl2 hgl
    refine Sat.region_k fun kk hk => ?_
    simp -implicitDefEqProofs only [evr, id, seval, tre_eql, res_one, tre_one, treRow, tre_ro, resRow, res_ro, tl_get, tl_set, ep_one, e3, evn]
    refine hk _ ?_
    simp only [thenK, blockK]
    refine ⟨(j + 1, fs, (oa, oc), f), ⟨by simp only; omega, hJ, hgl, hl2⟩, by simp only; omega, ?_⟩
    simp only [fgRow]
    simp -implicitDefEqProofs only [evr, id, seval, tre_eql, res_one, tre_one, treRow, tre_ro, resRow, res_ro, tl_get, tl_set, ep_one, evl, evn]
    try exact ownLe_refl _
   have h3 : j = p.length := by simp only [decide_eq_false_iff_not] at h; omega
   subst h3
   rw [List.take_length] at hF
   refine Sat.exit ?_
   simp only [thenK, blockK, reduceIte]
   refine Sat.region_k fun kk hk => ?_
   simp -implicitDefEqProofs only [evr, id, seval, tre_eql, res_one, tre_one, treRow, tre_ro, resRow, res_ro, tl_get, tl_set, ep_one, e2, evn]
   refine hk _ ?_
   simp only [thenK, blockK]
   have htk2 : l.take (k + 1) = l.take k ++ [c] := by
    rw [List.take_succ_eq_append_getElem h2, hc, List.getD_eq_getElem?_getD, List.getElem?_eq_getElem h2]; rfl
   refine ⟨(k + 1, gs, oa, oc), ⟨by simp only; omega, hF.done.mono (fun p' hp' => ?_), ?_, fun g hg => ?_⟩, by simp only; omega, ?_⟩
   ·rcases hp' with hp' | ⟨c', hc', e9⟩
    ·exact .inl (.inl hp')
    ·rw [htk2] at hc'
     rcases List.mem_append.1 hc' with hc' | hc'
     ·exact .inl (.inr ⟨c', hc', e9⟩)
     ·rw [List.mem_singleton] at hc'
      exact .inr (by rw [e9, hc', hp])
   ·have h8 : gs.length ≤ fB i (k + 1) := fB_k hgl (by omega)
    exact h8
   ·have h9 := hgr g hg
    have h8 : g.rs.length ≤ fB i (k + 1) := fB_k h9 (by omega)
    exact h8
   ·simp only [fgRow]
    rw [← hTd]
    simp -implicitDefEqProofs only [evr, id, seval, tre_eql, res_one, tre_one, treRow, tre_ro, resRow, res_ro, tl_get, tl_set, ep_one, evl, evn]
    exact ownLe_refl _
  have h2 : k = l.length := by simp only [decide_eq_false_iff_not] at h; omega
  subst h2
  rw [List.take_length] at hF
  refine Sat.exit ?_
  simp only [thenK, blockK, reduceIte]
  refine Sat.region_k fun kk hk => ?_
  simp -implicitDefEqProofs only [evr, id, seval, tre_eql, res_one, tre_one, treRow, tre_ro, resRow, res_ro, tl_get, tl_set, ep_one, e1, evn]
  refine hk _ ?_
  simp only [thenK, blockK]
  have htk : ts.take (i + 1) = ts.take i ++ [t] := by
   rw [List.take_succ_eq_append_getElem h1, ht]; simp [getElem!_def, h1]
  refine ⟨(i + 1, gs, oa, oc), ⟨by simp only; omega, hF.mono (fun p' hp' => ?_), ?_, fun g hg => ?_⟩, by simp only; omega, ?_⟩
  ·obtain ⟨t', ht', h9⟩ := hp'
   simp only at ht'
   rw [htk] at ht'
   rcases List.mem_append.1 ht' with ht' | ht'
   ·exact .inl ⟨t', ht', h9⟩
   ·rw [List.mem_singleton] at ht'
    subst ht'
    rw [hzs] at hcut ⊢
    exact .inr ((IsPartT.iff ho hcut).1 h9)
  ·have h8 : gs.length ≤ fB (i + 1) 0 := fB_i hgl hll
   exact h8
  ·have h9 := hgr g hg
   have h8 : g.rs.length ≤ fB (i + 1) 0 := fB_i h9 hll
   exact h8
  ·simp only [fgRow]
   rw [← hTd]
   simp -implicitDefEqProofs only [evr, id, seval, tre_eql, res_one, tre_one, treRow, tre_ro, resRow, res_ro, tl_get, tl_set, ep_one, evl, evn]
   exact ownLe_refl _
 have h1 : i = ts.length := by simp only [decide_eq_false_iff_not] at h; omega
 subst h1
 rw [List.take_length] at hF
 refine Sat.exit ?_
 simp only [thenK, blockK, reduceIte]
 have hB : fB ts.length 0 ≤ 1000000000 := Nat.le_trans (fB_le (by omega) (Nat.zero_le _)) (by decide)
 have hfin : ∀ g ∈ gs, g.rs.length ≤ 1000000000 := fun g hg => Nat.le_trans (hgr g hg) hB
 refine Sat.reown (own' := .row oa 23 gs.length oc 1 (fgRd gs) :: T) (fun j => if j = 0 then 1 else j + 2) (fun j o ho => ?_) (fun i j o o' hij ho ho' _ _ e => ?_) ?_
 ·match j, ho with
  | 0, ho => exact .inr (by simpa using ho)
  | j + 1, ho => exact .inr (by rw [if_neg (by omega)]; simpa using ho)
 ·split at e <;> split at e <;> omega
 refine Sat.redo 3 (.os 0 oa gs.length oc) rfl rfl (fun _ _ => trivial) ?_
 refine Sat.settleTail (o' := .row oa 23 gs.length oc 1 (fgS gs)) (fun b hb => by cases oa <;> exact hb) (fun R R' B w hRR hT hTb hno ho => ?_) ?_
 ·obtain ⟨h2, h3, h4⟩ := ho
  have hden : ∀ q r, q < gs.length → r < 1 → (fgRd gs q r).den = (fgS gs q r).den := fun q r hq hr => rfl
  refine ⟨?_, fun g hg => hno _ (by rw [hg]; rfl), fun q r hq hr => ⟨?_, ?_⟩⟩
  ·have e2 : cellsOf gs.length 1 (fgS gs) = cellsOf gs.length 1 (fgRd gs) := by
    unfold cellsOf
    refine List.map_congr_left fun t ht => rfl
   rw [e2]
   exact h2
  ·exact (h4 q r hq hr).1
  ·have htm : (gs.getD q default).row ∈ T := by rw [hTd]; exact List.mem_map.2 ⟨_, getD_mem hq, rfl⟩
   exact row_sl (hT _ htm) hRR (fun b hb => hTb _ htm b hb)
 refine Sat.settle2 3 rfl rfl ?_
 simp -implicitDefEqProofs only [evr, id, seval, tre_eql, res_one, tre_one, treRow, tre_ro, resRow, res_ro, tl_get, tl_set, ep_one, evn]
 (repeat refine Sat.seq ?_)
 (refine Sat.region_k fun k hk => ?_; simp -implicitDefEqProofs only [evr, id, seval, tre_eql, res_one, tre_one, treRow, tre_ro, resRow, res_ro, tl_get, tl_set, ep_one, evn]; refine hk _ ?_; clear hk k; try show Sat _ _ _ _ _)
 refine Sat.ret ?_
 simp only [Tryz.results45, evr, id, seval, tre_eql, res_one, tre_one, treRow, tre_ro, List.append_nil, Int.toNat_zero, Nat.sub_self, Int.reduceToNat, resRow, res_ro, tl_get, tl_set, ep_one]
 exact ⟨oa, oc, gs, FlowsOf.of hts hF, Nat.le_trans hgl hB, hfin, rfl⟩
end Go.Proofs.YtfeiiadligkamaaGreat


/- Rows of exclusions. -/
namespace Go.Proofs.YtfeiiadligkamaaGreat
open Go.Sort Eng
def excRd (d : Array Exc) : Nat → Nat → SV := fun i j => (Exc.cs d[i]!).getD j default
def excRow (ad : Option Addr) (N cap : Nat) (d : Array Exc) : Own := .row ad 29 N cap 8 (excRd d)
def excAg (x : Exc) : SV := .agg 8 fun j => (Exc.cs x).getD j default
theorem exc_one (d : Array Exc) (i j : Nat) (h : j < 8) : oneS (excRd d i j) = true := by
 rcases (show j = 0 ∨ j = 1 ∨ j = 2 ∨ j = 3 ∨ j = 4 ∨ j = 5 ∨ j = 6 ∨ j = 7 by omega) with rfl | rfl | rfl | rfl | rfl | rfl | rfl | rfl <;> rfl
def excCmp (g : FuncId) (lt : Exc → Exc → Bool) : Prop := ∀ x y, ∃ c : Int, lt x y = decide (c < 0) ∧ ∀ F, Contract F Tryz.prog g [excAg x, excAg y] (fun r => r = .i .i64 c)
end Go.Proofs.YtfeiiadligkamaaGreat


/- slices.SortFunc, by the shelf: sorts. -/
namespace Go.Proofs.YtfeiiadligkamaaGreat
open Go.Sort Eng
theorem exc_one1 (x : Exc) : ∀ s ∈ Exc.cs x, s.den.oneCell' = true := fun s hs => one_den (List.all_eq_true.1 (show (Exc.cs x).all oneS = true from rfl) s hs)
theorem exc_def (R : Nat → Prop) (w : World) : ∀ s ∈ Exc.cs default, s.ok R w := by
 intro s hs
 simp only [Exc.cs, List.mem_cons, List.not_mem_nil, or_false] at hs
 rcases hs with rfl | rfl | rfl | rfl | rfl | rfl | rfl | rfl <;> first | trivial | exact ⟨Nat.le_refl _, Nat.zero_le _, .inl rfl⟩
theorem excSortC (F : Frm) {g : FuncId} {rdc : Nat → SV} {lt : Exc → Exc → Bool} (hw : SWO lt) (hc : excCmp g lt) (ad : Option Addr) (cap N : Nat) (hN : N ≤ 1000000000000) (d : Array Exc) (hd : d.size = N) :
  ContractM F Tryz.prog 49 [.os 0 ad N cap, .fn g 0 rdc] (excRow ad N cap d)
   (fun r o1 => r = tupL [] ∧ ∃ d', d'.size = N ∧ (PermIn 0 N d d' ∧ SortedIn lt 0 N d') ∧ o1 = excRow ad N cap d') :=
 sortK Tryz.sortExclusion 8 (by decide) Tryz.isAgg29 Tryz.sizeOf29 Exc.cs (fun _ => rfl) exc_one1 exc_def F 29 (enters_of Tryz.func49 (by kernel_rfl) rfl) hw hc ad cap N hN d hd
end Go.Proofs.YtfeiiadligkamaaGreat


/- Exclusions, by the evaluator: exclusion.Compare, Pairs. -/
namespace Go.Proofs.YtfeiiadligkamaaGreat
open Go.Sort Eng
theorem sim_idn {f : Nat → SV} {d : Idn} (h0 : f 0 = .i .i64 d.van) (h1 : f 1 = .i .i64 d.run) (h2 : f 2 = .i .i64 d.num) : sim (.agg 3 f) (idnAg d) := by
 refine ⟨?_, fun R w _ j hj => ?_⟩
 ·simp only [SV.den, idnAg]
  congr 1
  have : (List.range 3) = [0, 1, 2] := rfl
  rw [this]
  simp only [List.map_cons, List.map_nil, h0, h1, h2]
  rfl
 ·rcases (show j = 0 ∨ j = 1 ∨ j = 2 by omega) with rfl | rfl | rfl <;> trivial
set_option maxHeartbeats 1000000 in
set_option maxRecDepth 100000 in
theorem compareExC (F : Frm) (x y : Exc) : Contract F Tryz.prog 24 [excAg x, excAg y] (fun r => r = .i .i64 (excCmpI x y)) := by
 rw [excCmp_or]
 refine contract_of Tryz.func24 rfl (by kernel_rfl) ?_
 simp only [Tryz.ntmps24, argEnv, excAg, Exc.cs]
 (repeat refine Sat.seq ?_)
 (refine Sat.region_k fun k hk => ?_; simp -implicitDefEqProofs only [evr, id, seval, exc_one, res_one, fg_one, idn_one, par_one, resRow, res_ro, rExtract_tup, evn])
 intro blk1 blk2
 (refine hk _ ?_; clear hk k; try show Sat _ _ _ _ _)
 (repeat refine Sat.seq ?_)
 (refine Sat.region_tree (OT.keep [0, 2, 5, 7, 10, 12, 15, 17, 1, 3, 6, 8, 11, 13, 16, 18] [4, 9, 14, 19] (BT.one 4 (BT.one 9 (BT.one 14 (BT.one 19 (BT.one 20 (BT.one 21 (BT.one 22 BT.done)))))))) (by kernel_rfl) (by kernel_rfl) (fun _ _ h => h) fun k hk => ?_; simp only [WOT, List.map_cons, List.map_nil, List.getD_cons_zero, List.getD_cons_succ]; simp -implicitDefEqProofs only [evr, id, seval, exc_one, res_one, fg_one, idn_one, par_one, resRow, res_ro, rExtract_tup, WOT, evn])
 refine wcall_plain (cmpAC F x.a y.a) rfl (by rintro _ rfl; exact ok_plain rfl) ?_
 rintro r rfl
 simp -implicitDefEqProofs only [evr, id, seval, exc_one, res_one, fg_one, idn_one, par_one, resRow, res_ro, rExtract_tup, evn]
 refine wcall_plain (cmpAC F x.b y.b) rfl (by rintro _ rfl; exact ok_plain rfl) ?_
 rintro r rfl
 simp -implicitDefEqProofs only [evr, id, seval, exc_one, res_one, fg_one, idn_one, par_one, resRow, res_ro, rExtract_tup, evn]
 refine wcall_plain (Contract.of_sim (args := [.agg 3 fun j => (Exc.cs x).getD (2 + j) default, .agg 3 fun j => (Exc.cs y).getD (2 + j) default]) (compareIdC F x.f y.f) ⟨sim_idn rfl rfl rfl, sim_idn rfl rfl rfl, trivial⟩) rfl (by rintro _ rfl; exact ok_plain rfl) ?_
 rintro r rfl
 simp -implicitDefEqProofs only [evr, id, seval, exc_one, res_one, fg_one, idn_one, par_one, resRow, res_ro, rExtract_tup, evn]
 refine wcall_plain (Contract.of_sim (args := [.agg 3 fun j => (Exc.cs x).getD (5 + j) default, .agg 3 fun j => (Exc.cs y).getD (5 + j) default]) (compareIdC F x.s y.s) ⟨sim_idn rfl rfl rfl, sim_idn rfl rfl rfl, trivial⟩) rfl (by rintro _ rfl; exact ok_plain rfl) ?_
 rintro r rfl
 simp -implicitDefEqProofs only [evr, id, seval, exc_one, res_one, fg_one, idn_one, par_one, resRow, res_ro, rExtract_tup, evn]
 intro blk3
 refine wcall_plain (orC F (some ⟨blk3, 0, none⟩) 4 [ordI x.a y.a, ordI x.b y.b, idnCmpI x.f y.f, idnCmpI x.s y.s] (by simp)) (by simp -implicitDefEqProofs only [evr, id, seval, exc_one, res_one, fg_one, idn_one, par_one, resRow, res_ro, rExtract_tup, intsRd, evn]) (by rintro _ rfl; exact ok_plain rfl) ?_
 rintro r rfl
 simp -implicitDefEqProofs only [evr, id, seval, exc_one, res_one, fg_one, idn_one, par_one, resRow, res_ro, rExtract_tup, evn]
 (refine hk _ ?_; clear hk k; try show Sat _ _ _ _ _)
 refine Sat.ret ?_
 simp only [Tryz.results24, evr, id, seval, exc_one, res_one, fg_one, idn_one, par_one, List.append_nil, Int.toNat_zero, Nat.sub_self, Int.reduceToNat, resRow, res_ro, rExtract_tup]
theorem excCmp1 : excCmp 24 excLt := fun x y => ⟨excCmpI x y, rfl, fun F => compareExC F x y⟩
def exKey (X : List Exc) (i : Nat) : List Int := (X.getD i default).pr.keys
def exVal (X : List Exc) (i : Nat) : SV := excAg (X.getD i default)
theorem seen_permA {α : Type} [Inhabited α] {ps : List α} {seen : List Nat} (hn : seen.Nodup) (hl : ∀ i ∈ seen, i < ps.length) (ha : ∀ i, i < ps.length → i ∈ seen) : (seen.map fun i => ps.getD i default).Perm ps := by
 have h1 : seen.Perm (List.range ps.length) := (List.perm_ext_iff_of_nodup hn List.nodup_range).2 fun i => by
  rw [List.mem_range]
  exact ⟨hl i, ha i⟩
 refine (h1.map _).trans ?_
 have : (List.range ps.length).map (fun i => ps.getD i default) = ps := by
  apply List.ext_getElem
  ·simp
  ·intro i h1 h2
   simp only [List.length_map, List.length_range] at h1
   simp [List.getD, h1]
 rw [this]
theorem seen_lenA {n : Nat} {seen : List Nat} (hn : seen.Nodup) (hl : ∀ i ∈ seen, i < n) : seen.length ≤ n := by
 have : seen.length ≤ (List.range n).length := hn.length_le_of_subset fun i hi => List.mem_range.2 (hl i hi)
 simpa using this
theorem best_len {α : Type} {key : α → Par} {lt : α → α → Bool} {C : α → Prop} {X : List α} (h : BestI key lt C X) {la lb : List Int} (hc : ∀ x, C x → (key x).a ∈ la ∧ (key x).b ∈ lb) : X.length ≤ la.length * lb.length := by
 have h1 : (X.map key).length ≤ (la.flatMap fun a => lb.map fun b => (⟨a, b⟩ : Par)).length := h.nodup.length_le_of_subset fun p hp => by
  obtain ⟨e, he, rfl⟩ := List.mem_map.1 hp
  obtain ⟨h2, h3⟩ := hc e (h.each e he).1
  exact List.mem_flatMap.2 ⟨_, h2, List.mem_map.2 ⟨_, h3, rfl⟩⟩
 have h2 : (la.flatMap fun a => lb.map fun b => (⟨a, b⟩ : Par)).length = la.length * lb.length := by
  clear h1 hc
  induction la with
  | nil => simp
  | cons a la ih => rw [List.flatMap_cons, List.length_append, ih, List.length_map, List.length_cons, Nat.succ_mul]; omega
 rw [List.length_map] at h1
 omega
theorem exc_app {ys : List Exc} {x : Exc} {cs : List SV} (h : cs = Exc.cs x) : rdEq (ys.length + 1) 8 (rdCat ys.length (excRd ys.toArray) (rdL cs 8)) (excRd (ys ++ [x]).toArray) := by
 subst h
 refine rdEq_snoc (fun i j hi hj => ?_) (fun j hj => ?_)
 ·unfold excRd
  simp [getElem!_def, List.getElem?_append, hi]
 ·unfold excRd
  simp [getElem!_def]
theorem exc_par {x y : Exc} (h : parLt x.pr y.pr = true) : excLt x y = true := by
 unfold parLt parCmpI at h
 unfold excLt excCmpI
 rw [decide_eq_true_eq] at *
 simp only [Par.keys, Exc.pr, Exc.keys, cmpL_cons] at h ⊢
 split at h
 ·rename_i e1
  split at h
  ·simp [cmpL, orL] at h
  ·rename_i e2
   rw [if_pos e1, if_neg e2]; exact h
 ·rename_i e1
  rw [if_neg e1]; exact h
theorem exc_sorted {L : List Exc} {d' : Array Exc} (hd : d'.size = L.length) (hp : PermIn 0 L.length L.toArray d') (hs : SortedIn excLt 0 L.length d') : d'.toList.Perm L ∧ d'.toList.Pairwise fun a b => parLt b.pr a.pr = false := by
 have h := hp.2.2
 have e1 : (d'.extract 0 L.length) = d' := by rw [← hd]; simp
 have e2 : (L.toArray.extract 0 L.length) = L.toArray := by simp
 rw [e1, e2] at h
 refine ⟨by simpa using h, ?_⟩
 rw [List.pairwise_iff_getElem]
 intro i j hi hj hij
 have hi' : i < d'.size := by simpa using hi
 have hj' : j < d'.size := by simpa using hj
 have := hs i j (Nat.zero_le _) hij (by omega)
 have h9 : excLt d'.toList[j] d'.toList[i] = false := by simpa [getElem!_def, hi', hj'] using this
 cases hc : parLt (d'.toList[j]).pr (d'.toList[i]).pr with
 | false => rfl
 | true => rw [exc_par hc] at h9; cases h9
theorem excC_len {xs : List Res} {X : List Exc} (hl : xs.length ≤ 512) (h : BestI Exc.pr excB (ExcC xs) X) : X.length ≤ 262144 := by
 have h1 := best_len (la := xs.map Res.from_) (lb := xs.map Res.from_) h (fun x hx => by
  obtain ⟨p, hp, a, ha, b, hb, _, _, _, _, rfl⟩ := hx
  exact ⟨List.mem_map.2 ⟨a, (hp.sub a ha).1, rfl⟩, List.mem_map.2 ⟨b, (hp.sub b hb).1, rfl⟩⟩)
 rw [List.length_map] at h1
 exact Nat.le_trans h1 (Nat.le_trans (Nat.mul_le_mul hl hl) (by decide))
set_option maxHeartbeats 2000000 in
set_option maxRecDepth 100000 in
theorem exPairsC (F : Frm) (ad : Option Addr) (cap : Nat) (xs : List Res) (hl : xs.length ≤ 512) (hin : ∀ r ∈ xs, RgR r) :
  Contract F Tryz.prog 12 [.sl ad xs.length cap 17 (resRd xs.toArray)] (fun r => (xs.any (fun x => !validR x) = true ∧ ∃ rd, r = tupL [.sl none 0 0 0 rd, .i .i64 1]) ∨
   (xs.any (fun x => !validR x) = false ∧ ∃ a cap es, ExcOf xs es ∧ es.length ≤ 1000000000000 ∧ r = tupL [.sl a es.length cap 8 (excRd es.toArray), .i .i64 0])) := by
 refine contract_of Tryz.func12 rfl (by kernel_rfl) ?_
 simp only [Tryz.ntmps12, argEnv]
 (repeat refine Sat.seq ?_)
 (refine Sat.region_k fun k hk => ?_; simp -implicitDefEqProofs only [evr, id, seval, exc_one, res_one, fg_one, idn_one, par_one, resRow, res_ro, rExtract_tup, evn]; refine hk _ ?_; clear hk k; try show Sat _ _ _ _ _)
 (repeat refine Sat.seq ?_)
 (refine Sat.region_k fun k hk => ?_; simp -implicitDefEqProofs only [evr, id, seval, exc_one, res_one, fg_one, idn_one, par_one, resRow, res_ro, rExtract_tup, evn])
 refine wcall_plain (exCheckC F ad cap xs hl hin) rfl (by rintro _ rfl; exact ok_plain rfl) ?_
 rintro _ rfl
 simp -implicitDefEqProofs only [evr, id, seval, exc_one, res_one, fg_one, idn_one, par_one, resRow, res_ro, rExtract_tup, evn]
 (refine hk _ ?_; clear hk k; try show Sat _ _ _ _ _)
 (repeat refine Sat.seq ?_)
 (refine Sat.region_k fun k hk => ?_; simp -implicitDefEqProofs only [evr, id, seval, exc_one, res_one, fg_one, idn_one, par_one, resRow, res_ro, rExtract_tup, evn]; refine hk _ ?_; clear hk k; try show Sat _ _ _ _ _)
 (repeat refine Sat.seq ?_)
 refine Sat.cond_b rfl (fun h => ?_) (fun h => ?_)
 ·have hb : xs.any (fun x => !validR x) = true := by
   cases hx : xs.any (fun x => !validR x) with
   | true => rfl
   | false => rw [hx] at h; cases h
  rw [hb]
  (repeat refine Sat.seq ?_)
  (refine Sat.region_k fun k hk => ?_; simp -implicitDefEqProofs only [evr, id, seval, exc_one, res_one, fg_one, idn_one, par_one, resRow, res_ro, rExtract_tup, evn]; refine hk _ ?_; clear hk k; try show Sat _ _ _ _ _)
  refine Sat.ret ?_
  simp only [Tryz.results12, evr, id, seval, exc_one, res_one, fg_one, idn_one, par_one, List.append_nil, Int.toNat_zero, Nat.sub_self, Int.reduceToNat, resRow, res_ro, rExtract_tup]
  exact .inl ⟨_, rfl⟩
 have hb : xs.any (fun x => !validR x) = false := by
  cases hx : xs.any (fun x => !validR x) with
  | false => rfl
  | true => rw [hx] at h; cases h
 refine Sat.skip ?_
 simp only [thenK]
 (repeat refine Sat.seq ?_)
 have hT : mqT Tryz.prog 87 = some (false, [.u32, .u32], 29) := by kernel_rfl
 (refine Sat.region_k fun k hk => ?_; simp -implicitDefEqProofs only [evr, id, seval, exc_one, res_one, fg_one, idn_one, par_one, resRow, res_ro, rExtract_tup, evn])
 refine makeMq hT (show 24 < 116 by decide) fun mb => ?_
 simp -implicitDefEqProofs only [evr, id, seval, exc_one, res_one, fg_one, idn_one, par_one, resRow, res_ro, rExtract_tup, evn]
 (refine hk _ ?_; clear hk k; try show Sat _ _ _ _ _)
 (repeat refine Sat.seq ?_)
 (refine Sat.region_k fun k hk => ?_; simp -implicitDefEqProofs only [evr, id, seval, exc_one, res_one, fg_one, idn_one, par_one, resRow, res_ro, rExtract_tup, evn])
 refine wcall_slice (flowsC F ad cap xs hl hin) rfl rfl ?_
 rintro _ ⟨ga, gc, gs, hfl, hgl, hgr, rfl⟩
 simp -implicitDefEqProofs only [evr, id, seval, exc_one, res_one, fg_one, idn_one, par_one, resRow, res_ro, rExtract_tup, evn]
 (refine hk _ ?_; clear hk k; try show Sat _ _ _ _ _)
 (repeat refine Sat.seq ?_)
 refine Sat.block ?_
 refine Sat.loop (ι := Nat × List Exc) (fun z => ⟨116, [(28, .i .i64 z.1), (27, .i .i64 gs.length), (26, .sl ga gs.length gc 1 (fgS gs)), (5, .mp 0 mb)], [.mq mb false [.u32, .u32] z.2.length (exKey z.2) (exVal z.2)]⟩)
  (fun z => z.1 ≤ gs.length ∧ BestI Exc.pr excB (fun x => ∃ g ∈ gs.take z.1, ∃ a ∈ g.rs, ∃ b ∈ g.rs, ExcR a b ∧ x = mkExc a b) z.2) (fun z => gs.length - z.1) (0, [])
  ⟨Nat.zero_le _, BestI.start.congr fun x => ⟨fun h => h.elim, fun ⟨g, hg, _⟩ => (by cases hg)⟩⟩ (by simp -implicitDefEqProofs only [evr, id, seval, exc_one, res_one, fg_one, idn_one, par_one, resRow, res_ro, rExtract_tup, evl, evn]; try exact fun i hi => absurd hi (Nat.not_lt_zero _)) ?_
 rintro ⟨i, X⟩ ⟨hi, hB⟩
 simp only at hi hB ⊢
 (repeat refine Sat.seq ?_)
 (refine Sat.region_k fun k hk => ?_; simp -implicitDefEqProofs only [evr, id, seval, exc_one, res_one, fg_one, idn_one, par_one, resRow, res_ro, rExtract_tup, evn]; refine hk _ ?_; clear hk k; try show Sat _ _ _ _ _)
 (repeat refine Sat.seq ?_)
 refine Sat.cond_b rfl (fun h => ?_) (fun h => ?_)
 ·have h1 : i < gs.length := by simp only [decide_eq_true_eq] at h; omega
  have e1 : IntKind.i64.wrap ((i : Int) + 1) = ((i + 1 : Nat) : Int) := by rw [w64 (by omega)]; omega
  obtain ⟨g, hg⟩ : ∃ g, g = gs.getD i default := ⟨_, rfl⟩
  have hgi : gs[i] = g := by rw [hg, List.getD_eq_getElem?_getD, List.getElem?_eq_getElem h1]; rfl
  have hgm : g ∈ gs := by rw [← hgi]; exact List.getElem_mem h1
  have hgl2 := hgr g hgm
  have q0 : fgS gs i 0 = .sl g.a g.rs.length g.cap 17 (resRd g.rs.toArray) := by rw [hg]; rfl
  have htk : gs.take (i + 1) = gs.take i ++ [g] := by rw [List.take_succ_eq_append_getElem h1, hgi]
  refine Sat.skip ?_
  simp only [thenK]
  (repeat refine Sat.seq ?_)
  refine Sat.block ?_
  (repeat refine Sat.seq ?_)
  (refine Sat.region_k fun k hk => ?_; simp -implicitDefEqProofs only [evr, id, seval, exc_one, res_one, fg_one, idn_one, par_one, resRow, res_ro, rExtract_tup, evn])
  simp only [q0]
  refine ⟨by omega, ?_⟩
  (refine hk _ ?_; clear hk k; try show Sat _ _ _ _ _)
  (repeat refine Sat.seq ?_)
  (refine Sat.region_k fun k hk => ?_; simp -implicitDefEqProofs only [evr, id, seval, exc_one, res_one, fg_one, idn_one, par_one, resRow, res_ro, rExtract_tup, evn]; refine hk _ ?_; clear hk k; try show Sat _ _ _ _ _)
  (repeat refine Sat.seq ?_)
  refine Sat.block ?_
  refine Sat.loop (ι := Nat × List Exc) (fun z => ⟨116, [(34, .i .i64 z.1), (33, .i .i64 g.rs.length), (32, .sl g.a g.rs.length g.cap 17 (resRd g.rs.toArray)), (7, .sl g.a g.rs.length g.cap 17 (resRd g.rs.toArray)), (28, .i .i64 i), (27, .i .i64 gs.length), (26, .sl ga gs.length gc 1 (fgS gs)), (5, .mp 0 mb)], [.mq mb false [.u32, .u32] z.2.length (exKey z.2) (exVal z.2)]⟩)
   (fun z => z.1 ≤ g.rs.length ∧ BestI Exc.pr excB (fun x => (∃ g ∈ gs.take i, ∃ a ∈ g.rs, ∃ b ∈ g.rs, ExcR a b ∧ x = mkExc a b) ∨ ∃ a ∈ g.rs.take z.1, ∃ b ∈ g.rs, ExcR a b ∧ x = mkExc a b) z.2) (fun z => g.rs.length - z.1) (0, X)
   ⟨Nat.zero_le _, hB.congr fun x => ⟨.inl, fun h => h.elim id fun ⟨a, ha, _⟩ => (by cases ha)⟩⟩ (by simp -implicitDefEqProofs only [evr, id, seval, exc_one, res_one, fg_one, idn_one, par_one, resRow, res_ro, rExtract_tup, evl, evn]; try exact fun i hi => ⟨rfl, rfl⟩) ?_
  clear hB
  rintro ⟨j, X⟩ ⟨hj, hB⟩
  simp only at hj hB ⊢
  (repeat refine Sat.seq ?_)
  (refine Sat.region_k fun k hk => ?_; simp -implicitDefEqProofs only [evr, id, seval, exc_one, res_one, fg_one, idn_one, par_one, resRow, res_ro, rExtract_tup, evn]; refine hk _ ?_; clear hk k; try show Sat _ _ _ _ _)
  (repeat refine Sat.seq ?_)
  refine Sat.cond_b rfl (fun h => ?_) (fun h => ?_)
  ·have h2 : j < g.rs.length := by simp only [decide_eq_true_eq] at h; omega
   have e2 : IntKind.i64.wrap ((j : Int) + 1) = ((j + 1 : Nat) : Int) := by rw [w64 (by omega)]; omega
   obtain ⟨a, ha⟩ : ∃ a, a = g.rs.toArray[j]! := ⟨_, rfl⟩
   have haj : g.rs[j] = a := by rw [ha, getB h2]
   have htk2 : g.rs.take (j + 1) = g.rs.take j ++ [a] := by rw [List.take_succ_eq_append_getElem h2, haj]
   refine Sat.skip ?_
   simp only [thenK]
   (repeat refine Sat.seq ?_)
   refine Sat.block ?_
   (repeat refine Sat.seq ?_)
   (refine Sat.region_k fun k hk => ?_; simp -implicitDefEqProofs only [evr, id, seval, exc_one, res_one, fg_one, idn_one, par_one, resRow, res_ro, rExtract_tup, evn])
   refine ⟨by omega, fun b9 => ?_⟩
   (refine hk _ ?_; clear hk k; try show Sat _ _ _ _ _)
   refine Sat.settleLast [.mq mb false [.u32, .u32] X.length (exKey X) (exVal X)] 9 rfl ?_
   simp only [List.length_cons, List.length_nil]
   (repeat refine Sat.seq ?_)
   (refine Sat.region_k fun k hk => ?_; simp -implicitDefEqProofs only [evr, id, seval, exc_one, res_one, fg_one, idn_one, par_one, resRow, res_ro, rExtract_tup, evn]; refine hk _ ?_; clear hk k; try show Sat _ _ _ _ _)
   (repeat refine Sat.seq ?_)
   refine Sat.block ?_
   refine Sat.loop (ι := Nat × List Exc) (fun z => ⟨116, [(40, .i .i64 z.1), (39, .i .i64 g.rs.length), (38, .sl g.a g.rs.length g.cap 17 (resRd g.rs.toArray)), (9, .el ⟨b9, 0, none⟩ 17 fun j => (Res.cs a).getD j default), (34, .i .i64 j), (33, .i .i64 g.rs.length), (32, .sl g.a g.rs.length g.cap 17 (resRd g.rs.toArray)), (7, .sl g.a g.rs.length g.cap 17 (resRd g.rs.toArray)), (28, .i .i64 i), (27, .i .i64 gs.length), (26, .sl ga gs.length gc 1 (fgS gs)), (5, .mp 0 mb)], [.mq mb false [.u32, .u32] z.2.length (exKey z.2) (exVal z.2)]⟩)
    (fun z => z.1 ≤ g.rs.length ∧ BestI Exc.pr excB (fun x => ((∃ g ∈ gs.take i, ∃ a ∈ g.rs, ∃ b ∈ g.rs, ExcR a b ∧ x = mkExc a b) ∨ ∃ a ∈ g.rs.take j, ∃ b ∈ g.rs, ExcR a b ∧ x = mkExc a b) ∨ ∃ b ∈ g.rs.take z.1, ExcR a b ∧ x = mkExc a b) z.2) (fun z => g.rs.length - z.1) (0, X)
    ⟨Nat.zero_le _, hB.congr fun x => ⟨.inl, fun h => h.elim id fun ⟨a, ha, _⟩ => (by cases ha)⟩⟩ (by
     simp -implicitDefEqProofs only [evr, id, seval, exc_one, res_one, fg_one, idn_one, par_one, resRow, res_ro, rExtract_tup, evl, evn]
     rw [ha]; rfl) ?_
   clear hB
   rintro ⟨k, X⟩ ⟨hk2, hB⟩
   simp only at hk2 hB ⊢
   (repeat refine Sat.seq ?_)
   (refine Sat.region_k fun k hk => ?_; simp -implicitDefEqProofs only [evr, id, seval, exc_one, res_one, fg_one, idn_one, par_one, resRow, res_ro, rExtract_tup, evn]; refine hk _ ?_; clear hk k; try show Sat _ _ _ _ _)
   (repeat refine Sat.seq ?_)
   refine Sat.cond_b rfl (fun h => ?_) (fun h => ?_)
   ·have h3 : k < g.rs.length := by simp only [decide_eq_true_eq] at h; omega
    have e3 : IntKind.i64.wrap ((k : Int) + 1) = ((k + 1 : Nat) : Int) := by rw [w64 (by omega)]; omega
    obtain ⟨b, hb2⟩ : ∃ b, b = g.rs.toArray[k]! := ⟨_, rfl⟩
    have hbk : g.rs[k] = b := by rw [hb2, getB h3]
    have htk3 : g.rs.take (k + 1) = g.rs.take k ++ [b] := by rw [List.take_succ_eq_append_getElem h3, hbk]
    refine Sat.skip ?_
    simp only [thenK]
    (repeat refine Sat.seq ?_)
    refine Sat.block ?_
    (repeat refine Sat.seq ?_)
    (refine Sat.region_k fun k hk => ?_; simp -implicitDefEqProofs only [evr, id, seval, exc_one, res_one, fg_one, idn_one, par_one, resRow, res_ro, rExtract_tup, evn])
    refine ⟨by omega, fun b11 => ?_⟩
    (refine hk _ ?_; clear hk k; try show Sat _ _ _ _ _)
    refine Sat.settleLast [.mq mb false [.u32, .u32] X.length (exKey X) (exVal X)] 11 rfl ?_
    refine Sat.le (st' := ⟨116, [(11, .el ⟨b11, 0, none⟩ 17 fun j => (Res.cs b).getD j default), (9, .el ⟨b9, 0, none⟩ 17 fun j => (Res.cs a).getD j default), (40, .i .i64 k), (39, .i .i64 g.rs.length), (38, .sl g.a g.rs.length g.cap 17 (resRd g.rs.toArray)), (34, .i .i64 j), (33, .i .i64 g.rs.length), (32, .sl g.a g.rs.length g.cap 17 (resRd g.rs.toArray)), (7, .sl g.a g.rs.length g.cap 17 (resRd g.rs.toArray)), (28, .i .i64 i), (27, .i .i64 gs.length), (26, .sl ga gs.length gc 1 (fgS gs)), (5, .mp 0 mb)], [.mq mb false [.u32, .u32] X.length (exKey X) (exVal X)]⟩) ?_ (by
     simp only [List.length_cons, List.length_nil]
     simp -implicitDefEqProofs only [evr, id, seval, exc_one, res_one, fg_one, idn_one, par_one, resRow, res_ro, rExtract_tup, evl, evn]
     rw [hb2]; rfl)
    simp only [Res.cs]
    (repeat refine Sat.seq ?_)
    refine Sat.joinK (ι := Bool) (fun q => ⟨116, [(57, .b q), (11, .el ⟨b11, 0, none⟩ 17 fun j => (Res.cs b).getD j default), (9, .el ⟨b9, 0, none⟩ 17 fun j => (Res.cs a).getD j default), (40, .i .i64 k), (39, .i .i64 g.rs.length), (38, .sl g.a g.rs.length g.cap 17 (resRd g.rs.toArray)), (34, .i .i64 j), (33, .i .i64 g.rs.length), (32, .sl g.a g.rs.length g.cap 17 (resRd g.rs.toArray)), (7, .sl g.a g.rs.length g.cap 17 (resRd g.rs.toArray)), (28, .i .i64 i), (27, .i .i64 gs.length), (26, .sl ga gs.length gc 1 (fgS gs)), (5, .mp 0 mb)], [.mq mb false [.u32, .u32] X.length (exKey X) (exVal X)]⟩) (fun q => q = !decide (a.ttl ≠ b.ttl ∧ a.from_ < b.from_)) (fun hrest => ?_) ?_
    ·(refine Sat.region_k fun k hk => ?_; simp -implicitDefEqProofs only [evr, id, seval, exc_one, res_one, fg_one, idn_one, par_one, resRow, res_ro, rExtract_tup, evn])
     refine ⟨fun q1 => hk _ ?_, fun q1 => hk _ ?_⟩
     ·simp only [thenK]
      have e9 : (!decide (a.ttl ≠ b.ttl ∧ a.from_ < b.from_)) = true := by
       have : a.ttl = b.ttl := by simpa using q1
       simp [this]
      refine (hrest _ rfl).le ?_
      rw [e9]
      simp only [Res.cs]
      simp -implicitDefEqProofs only [evr, id, seval, exc_one, res_one, fg_one, idn_one, par_one, resRow, res_ro, rExtract_tup, evl, evn]
     ·simp only [thenK]
      have e9 : (!decide (a.ttl ≠ b.ttl ∧ a.from_ < b.from_)) = decide (b.from_ ≤ a.from_) := by
       have h7 : a.ttl ≠ b.ttl := by simpa using q1
       apply Bool.eq_iff_iff.2
       simp only [Bool.not_eq_true', decide_eq_false_iff_not, decide_eq_true_eq, not_and]
       exact ⟨fun h => by have := h h7; omega, fun h _ => by omega⟩
      refine (hrest _ rfl).le ?_
      rw [e9]
      simp only [Res.cs]
      simp -implicitDefEqProofs only [evr, id, seval, exc_one, res_one, fg_one, idn_one, par_one, resRow, res_ro, rExtract_tup, evl, evn]
    rintro q rfl
    simp only [Res.cs]
    refine Sat.cond_b rfl (fun h4 => ?_) (fun h4 => ?_)
    ·have hno : ¬ ExcR a b := by unfold ExcR; simpa only [Bool.not_eq_true', decide_eq_false_iff_not] using h4
     refine Sat.exit ?_
     simp only [thenK, blockK, reduceIte]
     refine Sat.region_k fun kk hk => ?_
     simp -implicitDefEqProofs only [evr, id, seval, exc_one, res_one, fg_one, idn_one, par_one, resRow, res_ro, rExtract_tup, e3, evn]
     refine hk _ ?_
     simp only [thenK, blockK]
     refine ⟨(k + 1, X), ⟨by simp only; omega, hB.congr fun x => ?_⟩, by simp only; omega, ?_⟩
     ·simp only
      rw [htk3]
      refine or_congr Iff.rfl ⟨fun ⟨b', h8, h9⟩ => ⟨b', List.mem_append.2 (.inl h8), h9⟩, fun ⟨b', h8, h9⟩ => ?_⟩
      rcases List.mem_append.1 h8 with h8 | h8
      ·exact ⟨b', h8, h9⟩
      ·rw [List.mem_singleton] at h8
       subst h8
       exact absurd h9.1 hno
     ·simp -implicitDefEqProofs only [evr, id, seval, exc_one, res_one, fg_one, idn_one, par_one, resRow, res_ro, rExtract_tup, evl, evn]
      trace_state
      try exact fun i hi => ⟨rfl, rfl⟩
    have hyes : ExcR a b := by unfold ExcR; simpa only [Bool.not_eq_false', decide_eq_true_eq] using h4
    refine Sat.skip ?_
    simp only [thenK]
    (repeat refine Sat.seq ?_)
    (refine Sat.region_k fun k hk => ?_; simp -implicitDefEqProofs only [evr, id, seval, exc_one, res_one, fg_one, idn_one, par_one, resRow, res_ro, rExtract_tup, evn])
    intro b12
    (refine hk _ ?_; clear hk k; try show Sat _ _ _ _ _)
    refine Sat.settleLast [.mq mb false [.u32, .u32] X.length (exKey X) (exVal X)] 12 rfl ?_
    simp only [List.length_cons, List.length_nil, Nat.reduceAdd]
    have hlast : ∀ x, ((((∃ g ∈ gs.take i, ∃ a ∈ g.rs, ∃ b ∈ g.rs, ExcR a b ∧ x = mkExc a b) ∨ ∃ a ∈ g.rs.take j, ∃ b ∈ g.rs, ExcR a b ∧ x = mkExc a b) ∨ ∃ b ∈ g.rs.take k, ExcR a b ∧ x = mkExc a b) ∨ x = mkExc a b) ↔ ((∃ g ∈ gs.take i, ∃ a ∈ g.rs, ∃ b ∈ g.rs, ExcR a b ∧ x = mkExc a b) ∨ ∃ a ∈ g.rs.take j, ∃ b ∈ g.rs, ExcR a b ∧ x = mkExc a b) ∨ ∃ b ∈ g.rs.take (k + 1), ExcR a b ∧ x = mkExc a b := fun x => by
     rw [htk3, or_assoc]
     refine or_congr Iff.rfl ⟨fun h => ?_, fun ⟨b', h8, h9⟩ => ?_⟩
     ·rcases h with ⟨b', h8, h9⟩ | h
      ·exact ⟨b', List.mem_append.2 (.inl h8), h9⟩
      ·exact ⟨b, List.mem_append.2 (.inr (List.mem_singleton.2 rfl)), hyes, h⟩
     ·rcases List.mem_append.1 h8 with h8 | h8
      ·exact .inl ⟨b', h8, h9⟩
      ·rw [List.mem_singleton] at h8
       subst h8
       exact .inr h9.2
    obtain ⟨x, hx⟩ : ∃ x, x = mkExc a b := ⟨_, rfl⟩
    have hxc : Exc.cs x = [.i .u32 a.from_, .i .u32 b.from_, .i .i64 a.vantage, .i .i64 a.run, .i .i64 a.number, .i .i64 b.vantage, .i .i64 b.run, .i .i64 b.number] := by rw [hx]; rfl
    rw [← hx] at hlast
    (repeat refine Sat.seq ?_)
    refine Sat.atF (ι := Nat) (fun b13 => ⟨116, [(13, .op 1 b13 0), (12, .el ⟨b12, 0, none⟩ 2 fun j => [SV.i .u32 a.from_, .i .u32 b.from_].getD j default), (11, .el ⟨b11, 0, none⟩ 17 fun j => (Res.cs b).getD j default), (9, .el ⟨b9, 0, none⟩ 17 fun j => (Res.cs a).getD j default), (40, .i .i64 k), (39, .i .i64 g.rs.length), (38, .sl g.a g.rs.length g.cap 17 (resRd g.rs.toArray)), (34, .i .i64 j), (33, .i .i64 g.rs.length), (32, .sl g.a g.rs.length g.cap 17 (resRd g.rs.toArray)), (7, .sl g.a g.rs.length g.cap 17 (resRd g.rs.toArray)), (28, .i .i64 i), (27, .i .i64 gs.length), (26, .sl ga gs.length gc 1 (fgS gs)), (5, .mp 0 mb)], [.mq mb false [.u32, .u32] X.length (exKey X) (exVal X), .box b13 29 (Exc.cs x)]⟩) (fun _ => True) ?_ ?_
    ·rw [hxc]
     (refine Sat.region_tree (.keep [0, 2, 1, 3, 4, 6] [5, 7, 8, 9] (.alt 5 (.alt 7 (.free 8 (.one 9 (.one 10 .done))) (.alt 9 (.one 7 (.one 8 (.one 10 .done))) .none)) (.alt 9 (.one 5 (.one 7 (.one 8 (.one 10 .done)))) .none))) (by kernel_rfl) (by kernel_rfl) (fun _ _ h => h) fun k hk => ?_; simp only [WOT, List.map_cons, List.map_nil, List.getD_cons_zero, List.getD_cons_succ]; simp -implicitDefEqProofs only [evr, id, seval, exc_one, res_one, fg_one, idn_one, par_one, resRow, res_ro, rExtract_tup, WOT, evn])
     repeat' (first
      | (with_reducible refine And.intro ?_ ?_)
      | rfl
      | (refine wcall_plain (identC F a) rfl (by rintro _ rfl; exact idAg_ok _) ?_; rintro r rfl; simp only [idAg, evr, id, seval, exc_one, res_one, fg_one, idn_one, par_one, List.append_nil, Int.toNat_zero, Nat.sub_self, Int.reduceToNat, resRow, res_ro, rExtract_tup])
      | (refine wcall_plain (identC F b) rfl (by rintro _ rfl; exact idAg_ok _) ?_; rintro r rfl; simp only [idAg, evr, id, seval, exc_one, res_one, fg_one, idn_one, par_one, List.append_nil, Int.toNat_zero, Nat.sub_self, Int.reduceToNat, resRow, res_ro, rExtract_tup])
      | (with_reducible intro b13))
     all_goals
      refine hk _ ?_
      simp only [thenK, Res.cs]
      refine ⟨b13, trivial, ?_⟩
      simp -implicitDefEqProofs only [evr, id, seval, exc_one, res_one, fg_one, idn_one, par_one, resRow, res_ro, rExtract_tup, evl, evn]
    rintro b13 -
    simp only [thenK]
    refine Sat.settleLast [.mq mb false [.u32, .u32] X.length (exKey X) (exVal X)] 13 rfl ?_
    rw [hxc]
    simp only [List.length_cons, List.length_nil, Nat.reduceAdd, Res.cs]
    (repeat refine Sat.seq ?_)
    (refine Sat.region_k fun k hk => ?_; simp -implicitDefEqProofs only [evr, id, seval, exc_one, res_one, fg_one, idn_one, par_one, resRow, res_ro, rExtract_tup, evn])
    refine lookMq (l := x.pr.keys) hT (mqIn_own (id := 0) (m := .tmp 75) rfl rfl) rfl (by rw [hx]; rfl) (excAg default) (by kernel_rfl) (fun R w j hj => by rcases (show j = 0 ∨ j = 1 ∨ j = 2 ∨ j = 3 ∨ j = 4 ∨ j = 5 ∨ j = 6 ∨ j = 7 by omega) with rfl | rfl | rfl | rfl | rfl | rfl | rfl | rfl <;> trivial) (show 77 < 116 by decide) (fun n hn hkn => ?_) (fun hno => ?_)
    ·obtain ⟨y, hy⟩ : ∃ y, y = X.getD n default := ⟨_, rfl⟩
     have hyv : exVal X n = .agg 8 fun j => (Exc.cs y).getD j default := by rw [hy]; rfl
     have hXn : X[n] = y := by rw [hy, List.getD_eq_getElem?_getD, List.getElem?_eq_getElem hn]; rfl
     have hyk : y.pr = x.pr := by
      have : exKey X n = x.pr.keys := hkn
      unfold exKey at this
      rw [← hy] at this
      exact parKeys_inj this
     rw [hyv]
     simp only [Exc.cs, evr, id, seval, exc_one, res_one, fg_one, idn_one, par_one, List.append_nil, Int.toNat_zero, Nat.sub_self, Int.reduceToNat, resRow, res_ro, rExtract_tup]
     intro b14
     (refine hk _ ?_; clear hk k; try show Sat _ _ _ _ _)
     refine Sat.settleLast [.mq mb false [.u32, .u32] X.length (exKey X) (exVal X)] 14 rfl ?_
     simp only [List.length_cons, List.length_nil, Nat.reduceAdd]
     (repeat refine Sat.seq ?_)
     refine Sat.joinK (ι := Bool) (fun q => ⟨116, [(96, .b q), (13, .el ⟨b13, 0, none⟩ 8 fun j => (Exc.cs x).getD j default), (12, .el ⟨b12, 0, none⟩ 2 fun j => [SV.i .u32 a.from_, .i .u32 b.from_].getD j default), (9, .el ⟨b9, 0, none⟩ 17 fun j => (Res.cs a).getD j default), (40, .i .i64 k), (39, .i .i64 g.rs.length), (38, .sl g.a g.rs.length g.cap 17 (resRd g.rs.toArray)), (34, .i .i64 j), (33, .i .i64 g.rs.length), (32, .sl g.a g.rs.length g.cap 17 (resRd g.rs.toArray)), (7, .sl g.a g.rs.length g.cap 17 (resRd g.rs.toArray)), (28, .i .i64 i), (27, .i .i64 gs.length), (26, .sl ga gs.length gc 1 (fgS gs)), (5, .mp 0 mb)], [.mq mb false [.u32, .u32] X.length (exKey X) (exVal X)]⟩) (fun q => q = excB x y) (fun hrest => ?_) ?_
     ·(refine Sat.region_tree (.keep [0, 1, 2, 3, 5, 8, 10, 4, 6, 9, 11] [7] (.one 7 (.one 12 (.one 13 (.one 14 (.one 15 (.one 16 .done))))))) (by kernel_rfl) (by kernel_rfl) (fun _ _ h => h) fun k hk => ?_; simp only [WOT, List.map_cons, List.map_nil, List.getD_cons_zero, List.getD_cons_succ]; simp -implicitDefEqProofs only [evr, id, seval, exc_one, res_one, fg_one, idn_one, par_one, resRow, res_ro, rExtract_tup, WOT, evn])
      refine wcall_plain (Contract.of_sim (args := [.agg 3 fun j => (Exc.cs (mkExc a b)).getD (5 + j) default, .agg 3 fun j => (Exc.cs y).getD (5 + j) default]) (compareIdC F b.idn y.s) ⟨sim_idn rfl rfl rfl, sim_idn rfl rfl rfl, trivial⟩) rfl (by rintro _ rfl; exact ok_plain rfl) ?_
      rintro r rfl
      simp -implicitDefEqProofs only [evr, id, seval, exc_one, res_one, fg_one, idn_one, par_one, resRow, res_ro, rExtract_tup, evn]
      refine wcall_plain (Contract.of_sim (args := [.agg 3 fun j => (Exc.cs (mkExc a b)).getD (2 + j) default, .agg 3 fun j => (Exc.cs y).getD (2 + j) default]) (compareIdC F a.idn y.f) ⟨sim_idn rfl rfl rfl, sim_idn rfl rfl rfl, trivial⟩) rfl (by rintro _ rfl; exact ok_plain rfl) ?_
      rintro r rfl
      simp -implicitDefEqProofs only [evr, id, seval, exc_one, res_one, fg_one, idn_one, par_one, resRow, res_ro, rExtract_tup, evn]
      intro bs
      refine wcall_plain (orC F (some ⟨bs, 0, none⟩) 2 [idnCmpI b.idn y.s, idnCmpI a.idn y.f] (by simp)) (by simp -implicitDefEqProofs only [evr, id, seval, exc_one, res_one, fg_one, idn_one, par_one, resRow, res_ro, rExtract_tup, intsRd, evn]) (by rintro _ rfl; exact ok_plain rfl) ?_
      rintro r rfl
      simp -implicitDefEqProofs only [evr, id, seval, exc_one, res_one, fg_one, idn_one, par_one, resRow, res_ro, rExtract_tup, evn]
      have e9 : excB x y = decide (orL [idnCmpI b.idn y.s, idnCmpI a.idn y.f] < 0) := by rw [hx]; rfl
      refine hk _ ((hrest _ rfl).le ?_)
      rw [e9, hxc]
      simp only [Res.cs]
      simp -implicitDefEqProofs only [evr, id, seval, exc_one, res_one, fg_one, idn_one, par_one, resRow, res_ro, rExtract_tup, evl, evn]
     rintro q rfl
     rw [hxc]
     simp only [Res.cs]
     refine Sat.cond_b rfl (fun h5 => ?_) (fun h5 => ?_)
     ·(repeat refine Sat.seq ?_)
      refine Sat.region_k fun kk hk => ?_
      simp -implicitDefEqProofs only [evr, id, seval, exc_one, res_one, fg_one, idn_one, par_one, resRow, res_ro, rExtract_tup, evn]
      refine updMq (l := x.pr.keys) hT rfl rfl rfl (by rw [hx]; rfl) rfl trivial (fun n2 hn2 hk2 => ?_) (fun hno => absurd hkn (hno n hn))
      have hn9 : n2 = n := by
       refine hB.inj hn2 hn ?_
       have e9 : exKey X n2 = exKey X n := hk2.trans hkn.symm
       unfold exKey at e9
       have := parKeys_inj e9
       rwa [List.getD_eq_getElem?_getD, List.getElem?_eq_getElem hn2, List.getD_eq_getElem?_getD, List.getElem?_eq_getElem hn] at this
      subst hn9
      simp -implicitDefEqProofs only [evr, id, seval, exc_one, res_one, fg_one, idn_one, par_one, resRow, res_ro, rExtract_tup, evn]
      refine hk _ ?_
      clear hk kk
      simp only [thenK, blockK]
      obtain ⟨X2, hX2⟩ : ∃ X2, X2 = X.set n2 x := ⟨_, rfl⟩
      have hB2 := (hB.set excB_irrefl excB_trans (y := x) hn2 (by rw [hXn]; exact hyk) (by rw [hXn]; exact h5)).congr hlast
      rw [← hX2] at hB2
      refine Sat.leOwn (own' := [.mq mb false [.u32, .u32] X2.length (exKey X2) (exVal X2)]) ⟨⟨rfl, rfl, rfl, by rw [hX2, List.length_set], fun q hq => ?_⟩, trivial⟩ ?_
      ·unfold exKey exVal
       rw [hX2]
       simp only []
       by_cases h9 : q = n2
       ·subst h9
        rw [getD_set_self hn2, if_pos rfl, ← hy, hyk, excAg, hxc]
        exact ⟨rfl, rfl⟩
       ·rw [getD_set_ne (Ne.symm h9), if_neg h9]
        exact ⟨rfl, rfl⟩
      refine Sat.region_k fun kk hk => ?_
      simp -implicitDefEqProofs only [evr, id, seval, exc_one, res_one, fg_one, idn_one, par_one, resRow, res_ro, rExtract_tup, e3, evn]
      refine hk _ ?_
      simp only [thenK, blockK]
      refine ⟨(k + 1, X2), ⟨by simp only; omega, hB2⟩, by simp only; omega, ?_⟩
      simp only [Res.cs]
      simp -implicitDefEqProofs only [evr, id, seval, exc_one, res_one, fg_one, idn_one, par_one, resRow, res_ro, rExtract_tup, evl, evn]
      try exact fun i hi => ⟨rfl, rfl⟩
     ·refine Sat.skip ?_
      simp only [thenK, blockK]
      obtain ⟨X2, hX2⟩ : ∃ X2, X2 = X := ⟨_, rfl⟩
      have hB2 := (hB.keep (y := x) hn (by rw [hXn]; exact hyk) (by rw [hXn]; exact h5)).congr hlast
      rw [← hX2] at hB2 ⊢
      refine Sat.region_k fun kk hk => ?_
      simp -implicitDefEqProofs only [evr, id, seval, exc_one, res_one, fg_one, idn_one, par_one, resRow, res_ro, rExtract_tup, e3, evn]
      refine hk _ ?_
      simp only [thenK, blockK]
      refine ⟨(k + 1, X2), ⟨by simp only; omega, hB2⟩, by simp only; omega, ?_⟩
      simp only [Res.cs]
      simp -implicitDefEqProofs only [evr, id, seval, exc_one, res_one, fg_one, idn_one, par_one, resRow, res_ro, rExtract_tup, evl, evn]
      try exact fun i hi => ⟨rfl, rfl⟩
    ·simp only [excAg, Exc.cs, evr, id, seval, exc_one, res_one, fg_one, idn_one, par_one, List.append_nil, Int.toNat_zero, Nat.sub_self, Int.reduceToNat, resRow, res_ro, rExtract_tup]
     intro b14
     (refine hk _ ?_; clear hk k; try show Sat _ _ _ _ _)
     refine Sat.settleLast [.mq mb false [.u32, .u32] X.length (exKey X) (exVal X)] 14 rfl ?_
     simp only [List.length_cons, List.length_nil, Nat.reduceAdd]
     (repeat refine Sat.seq ?_)
     refine Sat.joinK (ι := Bool) (fun q => ⟨116, [(96, .b q), (13, .el ⟨b13, 0, none⟩ 8 fun j => (Exc.cs x).getD j default), (12, .el ⟨b12, 0, none⟩ 2 fun j => [SV.i .u32 a.from_, .i .u32 b.from_].getD j default), (9, .el ⟨b9, 0, none⟩ 17 fun j => (Res.cs a).getD j default), (40, .i .i64 k), (39, .i .i64 g.rs.length), (38, .sl g.a g.rs.length g.cap 17 (resRd g.rs.toArray)), (34, .i .i64 j), (33, .i .i64 g.rs.length), (32, .sl g.a g.rs.length g.cap 17 (resRd g.rs.toArray)), (7, .sl g.a g.rs.length g.cap 17 (resRd g.rs.toArray)), (28, .i .i64 i), (27, .i .i64 gs.length), (26, .sl ga gs.length gc 1 (fgS gs)), (5, .mp 0 mb)], [.mq mb false [.u32, .u32] X.length (exKey X) (exVal X)]⟩) (fun q => q = true) (fun hrest => ?_) ?_
     ·(refine Sat.region_tree (.keep [0, 1, 2, 3, 5, 8, 10, 4, 6, 9, 11] [7] (.one 7 (.one 12 (.one 13 (.one 14 (.one 15 (.one 16 .done))))))) (by kernel_rfl) (by kernel_rfl) (fun _ _ h => h) fun k hk => ?_; simp only [WOT, List.map_cons, List.map_nil, List.getD_cons_zero, List.getD_cons_succ]; simp -implicitDefEqProofs only [evr, id, seval, exc_one, res_one, fg_one, idn_one, par_one, resRow, res_ro, rExtract_tup, WOT, evn])
      refine hk _ ((hrest _ rfl).le ?_)
      rw [hxc]
      simp only [Res.cs]
      simp -implicitDefEqProofs only [evr, id, seval, exc_one, res_one, fg_one, idn_one, par_one, resRow, res_ro, rExtract_tup, evl, evn]
     rintro q rfl
     rw [hxc]
     simp only [Res.cs]
     refine Sat.cond_b rfl (fun _ => ?_) (fun h5 => absurd h5 (by decide))
     (repeat refine Sat.seq ?_)
     refine Sat.region_k fun kk hk => ?_
     simp -implicitDefEqProofs only [evr, id, seval, exc_one, res_one, fg_one, idn_one, par_one, resRow, res_ro, rExtract_tup, evn]
     have hno2 : ∀ n2, n2 < X.length → exKey X n2 ≠ x.pr.keys := hno
     refine updMq (l := x.pr.keys) hT rfl rfl rfl (by rw [hx]; rfl) rfl trivial (fun n2 hn2 hk2 => absurd hk2 (hno2 n2 hn2)) (fun _ => ?_)
     simp -implicitDefEqProofs only [evr, id, seval, exc_one, res_one, fg_one, idn_one, par_one, resRow, res_ro, rExtract_tup, evn]
     refine hk _ ?_
     clear hk kk
     simp only [thenK, blockK]
     obtain ⟨X2, hX2⟩ : ∃ X2, X2 = X ++ [x] := ⟨_, rfl⟩
     have hB2 := (hB.new excB_irrefl (y := x) (fun e he h9 => by
      obtain ⟨q, hq, rfl⟩ := List.getElem_of_mem he
      refine hno2 q hq ?_
      unfold exKey
      rw [List.getD_eq_getElem?_getD, List.getElem?_eq_getElem hq]
      exact congrArg Par.keys h9)).congr hlast
     rw [← hX2] at hB2
     have hX2l : X2.length = X.length + 1 := by rw [hX2, List.length_append]; rfl
     refine Sat.leOwn (own' := [.mq mb false [.u32, .u32] X2.length (exKey X2) (exVal X2)]) ⟨⟨rfl, rfl, rfl, hX2l.symm, fun q hq => ?_⟩, trivial⟩ ?_
     ·unfold exKey exVal
      rw [hX2]
      simp only []
      by_cases h9 : q = X.length
      ·subst h9
       have e9 : (X ++ [x]).getD X.length default = x := by rw [List.getD_eq_getElem?_getD, List.getElem?_concat_length]; rfl
       rw [e9, if_pos rfl, if_pos rfl, excAg, hxc]
       exact ⟨rfl, rfl⟩
      ·have e9 : (X ++ [x]).getD q default = X.getD q default := by
        rw [List.getD_eq_getElem?_getD, List.getElem?_append_left (by omega), List.getD_eq_getElem?_getD]
       rw [e9, if_neg h9, if_neg h9]
       exact ⟨rfl, rfl⟩
     refine Sat.region_k fun kk hk => ?_
     simp -implicitDefEqProofs only [evr, id, seval, exc_one, res_one, fg_one, idn_one, par_one, resRow, res_ro, rExtract_tup, e3, evn]
     refine hk _ ?_
     simp only [thenK, blockK]
     refine ⟨(k + 1, X2), ⟨by simp only; omega, hB2⟩, by simp only; omega, ?_⟩
     simp only [Res.cs]
     simp -implicitDefEqProofs only [evr, id, seval, exc_one, res_one, fg_one, idn_one, par_one, resRow, res_ro, rExtract_tup, evl, evn]
     try exact fun i hi => ⟨rfl, rfl⟩
   have h3 : k = g.rs.length := by simp only [decide_eq_false_iff_not] at h; omega
   subst h3
   refine Sat.exit ?_
   simp only [thenK, blockK, reduceIte]
   refine Sat.region_k fun kk hk => ?_
   simp -implicitDefEqProofs only [evr, id, seval, exc_one, res_one, fg_one, idn_one, par_one, resRow, res_ro, rExtract_tup, e2, evn]
   refine hk _ ?_
   simp only [thenK, blockK]
   refine ⟨(j + 1, X), ⟨by simp only; omega, hB.congr fun x => ?_⟩, by simp only; omega, ?_⟩
   ·simp only
    rw [htk2, List.take_length, or_assoc]
    refine or_congr Iff.rfl ⟨fun h => ?_, fun ⟨a', h8, h9⟩ => ?_⟩
    ·rcases h with ⟨a', h8, h9⟩ | h
     ·exact ⟨a', List.mem_append.2 (.inl h8), h9⟩
     ·exact ⟨a, List.mem_append.2 (.inr (List.mem_singleton.2 rfl)), h⟩
    ·rcases List.mem_append.1 h8 with h8 | h8
     ·exact .inl ⟨a', h8, h9⟩
     ·rw [List.mem_singleton] at h8
      subst h8
      exact .inr h9
   ·simp -implicitDefEqProofs only [evr, id, seval, exc_one, res_one, fg_one, idn_one, par_one, resRow, res_ro, rExtract_tup, evl, evn]
    try exact fun i hi => ⟨rfl, rfl⟩
  have h2 : j = g.rs.length := by simp only [decide_eq_false_iff_not] at h; omega
  subst h2
  refine Sat.exit ?_
  simp only [thenK, blockK, reduceIte]
  refine Sat.region_k fun kk hk => ?_
  simp -implicitDefEqProofs only [evr, id, seval, exc_one, res_one, fg_one, idn_one, par_one, resRow, res_ro, rExtract_tup, e1, evn]
  refine hk _ ?_
  simp only [thenK, blockK]
  refine ⟨(i + 1, X), ⟨by simp only; omega, hB.congr fun x => ?_⟩, by simp only; omega, ?_⟩
  ·simp only
   rw [htk, List.take_length]
   refine ⟨fun h => ?_, fun ⟨g', h8, h9⟩ => ?_⟩
   ·rcases h with ⟨g', h8, h9⟩ | h
    ·exact ⟨g', List.mem_append.2 (.inl h8), h9⟩
    ·exact ⟨g, List.mem_append.2 (.inr (List.mem_singleton.2 rfl)), h⟩
   ·rcases List.mem_append.1 h8 with h8 | h8
    ·exact .inl ⟨g', h8, h9⟩
    ·rw [List.mem_singleton] at h8
     subst h8
     exact .inr h9
  ·simp -implicitDefEqProofs only [evr, id, seval, exc_one, res_one, fg_one, idn_one, par_one, resRow, res_ro, rExtract_tup, evl, evn]
   try exact fun i hi => ⟨rfl, rfl⟩
 have h1 : i = gs.length := by simp only [decide_eq_false_iff_not] at h; omega
 subst h1
 rw [List.take_length] at hB
 refine Sat.exit ?_
 simp only [thenK, blockK, reduceIte]
 have hB2 : BestI Exc.pr excB (ExcC xs) X := hB.congr fun x => by
  rw [← flows_exc hfl]
  exact ⟨fun ⟨g, h8, h9⟩ => ⟨g.rs, List.mem_map.2 ⟨g, h8, rfl⟩, h9⟩, fun ⟨g, h8, h9⟩ => by
   obtain ⟨g', h7, rfl⟩ := List.mem_map.1 h8
   exact ⟨g', h7, h9⟩⟩
 have hXl := excC_len hl hB2
 clear hB
 refine Sat.settleMap 5 rfl rfl ?_
 simp only [List.set_cons_zero]
 (repeat refine Sat.seq ?_)
 (refine Sat.region_k fun k hk => ?_; simp -implicitDefEqProofs only [evr, id, seval, exc_one, res_one, fg_one, idn_one, par_one, resRow, res_ro, rExtract_tup, evn]; refine hk _ ?_; clear hk k; try show Sat _ _ _ _ _)
 (repeat refine Sat.seq ?_)
 refine Sat.region_k fun kk hk => ?_
 simp -implicitDefEqProofs only [evr, id, seval, exc_one, res_one, fg_one, idn_one, par_one, resRow, res_ro, rExtract_tup, evn]
 refine rangeMq hT (mqIn_rm rfl) (show 104 < 116 by decide) fun it => ?_
 simp -implicitDefEqProofs only [evr, id, seval, exc_one, res_one, fg_one, idn_one, par_one, resRow, res_ro, rExtract_tup, evn]
 refine hk _ ?_
 clear hk kk
 simp only [thenK]
 refine Sat.adopt 16 29 8 (excRd #[]) rfl ?_
 have hkv : ∀ i, (parAg (X.getD i default).pr).den = keyV false [.u32, .u32] (exKey X i) := fun i => par_den _
 refine Sat.block ?_
 refine Sat.loop (ι := List Nat × Option Addr × Nat) (fun z => ⟨116, [(104, .v (.pointer (some ⟨it, 0, none⟩))), (16, .os 2 z.2.1 z.1.length z.2.2), (5, .rm mb false [.u32, .u32] X.length (exKey X) (exVal X))], [.gone, .res it (IterMap it mb X.length z.1), .row z.2.1 29 z.1.length z.2.2 8 (excRd (z.1.map fun i => X.getD i default).toArray)]⟩)
  (fun z => z.1.Nodup ∧ ∀ i ∈ z.1, i < X.length) (fun z => X.length - z.1.length) ([], none, 0) ⟨List.nodup_nil, fun i hi => (by cases hi)⟩ (by
   simp only [List.map_nil, List.length_nil]
   simp -implicitDefEqProofs only [evr, id, seval, exc_one, res_one, fg_one, idn_one, par_one, resRow, res_ro, rExtract_tup, evl, evn]
   try exact own_le _) ?_
 rintro ⟨seen, oa, oc⟩ ⟨hnd, hsl⟩
 simp only at hnd hsl ⊢
 have hsln := seen_lenA hnd hsl
 (repeat refine Sat.seq ?_)
 refine Sat.region_k fun kk hk => ?_
 simp -implicitDefEqProofs only [evr, id, seval, exc_one, res_one, fg_one, idn_one, par_one, resRow, res_ro, rExtract_tup, evn]
 refine nextMq (oid := 1) rfl rfl rfl (mqIn_rm (m := .tmp 5) rfl) (fun i => parAg (X.getD i default).pr) (fun i _ => hkv i) (fun i R w => par_ok _ R w) (show 105 < 116 by decide) (fun i hi hs => ?_) (fun ha => ?_)
 ·simp -implicitDefEqProofs only [evr, id, seval, exc_one, res_one, fg_one, idn_one, par_one, resRow, res_ro, rExtract_tup, evn]
  refine hk _ ?_
  clear hk kk
  have hnd2 : (seen ++ [i]).Nodup := by
   rw [List.nodup_append]
   exact ⟨hnd, by simp, fun a ha b hb => by rw [List.mem_singleton] at hb; subst hb; exact fun e => hs (e ▸ ha)⟩
  have hsl2 : ∀ j ∈ seen ++ [i], j < X.length := fun j hj => by
   rcases List.mem_append.1 hj with hj | hj
   ·exact hsl j hj
   ·rw [List.mem_singleton] at hj; subst hj; exact hi
  have hlen := seen_lenA hnd2 hsl2
  rw [List.length_append, List.length_singleton] at hlen
  obtain ⟨y, hy⟩ : ∃ y, y = X.getD i default := ⟨_, rfl⟩
  have hmap : (seen ++ [i]).map (fun i => X.getD i default) = seen.map (fun i => X.getD i default) ++ [y] := by rw [List.map_append, hy]; rfl
  simp only [thenK]
  (repeat refine Sat.seq ?_)
  refine Sat.cond_tt rfl ?_
  refine Sat.skip ?_
  simp only [thenK]
  (repeat refine Sat.seq ?_)
  refine Sat.block ?_
  (repeat refine Sat.seq ?_)
  refine Sat.region_k fun kk hk => ?_
  simp -implicitDefEqProofs only [evr, id, seval, exc_one, res_one, fg_one, idn_one, par_one, resRow, res_ro, rExtract_tup, evn]
  refine entryIterMq (oid := 1) (seen := seen) rfl rfl hi (mqIn_rm (m := .tmp 5) rfl) (fun i => parAg (X.getD i default).pr) (hkv i) (fun R w => par_ok _ R w) (show 107 < 116 by decide) ?_
  have hyv : exVal X i = .agg 8 fun j => (Exc.cs y).getD j default := by rw [hy]; rfl
  rw [hyv]
  simp only [parAg, Par.cs, Exc.cs, evr, id, seval, exc_one, res_one, fg_one, idn_one, par_one, List.append_nil, Int.toNat_zero, Nat.sub_self, Int.reduceToNat, resRow, res_ro, rExtract_tup]
  intro b18
  refine hk _ ?_
  clear hk kk
  simp only [thenK]
  refine Sat.settleLast [.gone, .res it (IterMap it mb X.length (seen ++ [i])), .row oa 29 seen.length oc 8 (excRd (seen.map fun i => X.getD i default).toArray)] 18 rfl ?_
  simp only [List.length_cons, List.length_nil, Nat.reduceAdd]
  refine Sat.region_k fun kk hk => ?_
  simp -implicitDefEqProofs only [evr, id, seval, exc_one, res_one, fg_one, idn_one, par_one, resRow, res_ro, rExtract_tup, evn]
  refine fun b0 => ⟨⟨by unfold maxLen; omega, by omega⟩, fun a2 c2 => hk _ ?_⟩
  clear hk kk
  simp only [thenK, blockK]
  refine ⟨(seen ++ [i], a2, c2), ⟨hnd2, hsl2⟩, by simp only [List.length_append, List.length_singleton]; omega, ?_⟩
  simp only [hmap, List.length_append, List.length_singleton]
  simp -implicitDefEqProofs only [evr, id, seval, exc_one, res_one, fg_one, idn_one, par_one, resRow, res_ro, rExtract_tup, evl, evn]
  have h9 := exc_app (ys := seen.map fun i => X.getD i default) (x := y) rfl
  rw [List.length_map] at h9
  first | exact h9 | exact ⟨own_le _, h9⟩
 ·simp -implicitDefEqProofs only [evr, id, seval, exc_one, res_one, fg_one, idn_one, par_one, resRow, res_ro, rExtract_tup, evn]
  refine hk _ ?_
  clear hk kk
  simp only [thenK]
  (repeat refine Sat.seq ?_)
  refine Sat.cond_ff rfl ?_
  refine Sat.exit ?_
  simp only [thenK, blockK, reduceIte]
  obtain ⟨L, hL⟩ : ∃ L, L = seen.map fun i => X.getD i default := ⟨_, rfl⟩
  have hLp : L.Perm X := by rw [hL]; exact seen_permA hnd hsl ha
  have hLl : seen.length = L.length := by rw [hL, List.length_map]
  rw [← hL, hLl]
  have hLl2 : L.length ≤ 262144 := by omega
  (repeat refine Sat.seq ?_)
  refine Sat.region_k fun kk hk => ?_
  simp -implicitDefEqProofs only [evr, id, seval, exc_one, res_one, fg_one, idn_one, par_one, resRow, res_ro, rExtract_tup, evn]
  refine wcall_mut 2 (excSortC F excLt_swo excCmp1 oa oc L.length (by omega) L.toArray (by simp)) rfl rfl ?_
  rintro r o1 ⟨rfl, d', hd', ⟨hperm, hsort⟩, rfl⟩
  simp only [excRow, evr, id, seval, exc_one, res_one, fg_one, idn_one, par_one, List.append_nil, Int.toNat_zero, Nat.sub_self, Int.reduceToNat, resRow, res_ro, rExtract_tup]
  refine hk _ ?_
  clear hk kk
  simp only [thenK]
  obtain ⟨hp2, hs2⟩ := exc_sorted hd' hperm hsort
  have hes : ExcOf xs d'.toList := hB2.sorted (hp2.trans hLp) hs2
  have hdl : L.length = d'.toList.length := by rw [Array.length_toList]; exact hd'.symm
  (repeat refine Sat.seq ?_)
  (refine Sat.region_k fun k hk => ?_; simp -implicitDefEqProofs only [evr, id, seval, exc_one, res_one, fg_one, idn_one, par_one, resRow, res_ro, rExtract_tup, evn]; refine hk _ ?_; clear hk k; try show Sat _ _ _ _ _)
  refine Sat.ret ?_
  simp only [Tryz.results12, evr, id, seval, exc_one, res_one, fg_one, idn_one, par_one, List.append_nil, Int.toNat_zero, Nat.sub_self, Int.reduceToNat, resRow, res_ro, rExtract_tup]
  exact .inr ⟨hb, _, _, d'.toList, hes, by omega, by rw [hdl]⟩
end Go.Proofs.YtfeiiadligkamaaGreat


/- What Mates computes (no program in sight). -/
namespace Go.Proofs.YtfeiiadligkamaaGreat
open Eng Go.Sort
structure Sg where
 k : Int
 ids : List Idn
 a : Option Addr
 cap : Nat
instance : Inhabited Sg := ⟨⟨0, [], none, 0⟩⟩
def sKey (X : List Sg) (i : Nat) : List Int := [(X.getD i default).k]
structure SeenOk (xs : List Res) (X : List Sg) : Prop where
 nodup : (X.map Sg.k).Nodup
 mem : ∀ k d, (∃ g ∈ X, g.k = k ∧ d ∈ g.ids) ↔ ∃ r ∈ xs, wayR r = true ∧ r.from_ = k ∧ r.idn = d
 len : ∀ g ∈ X, g.ids.length ≤ xs.length
 num : X.length ≤ xs.length
theorem SeenOk.nil : SeenOk [] [] := ⟨List.nodup_nil, fun k d => ⟨fun ⟨g, hg, _⟩ => (by cases hg), fun ⟨r, hr, _⟩ => (by cases hr)⟩, fun g hg => (by cases hg), Nat.le_refl _⟩
theorem SeenOk.skip {xs : List Res} {X : List Sg} {r : Res} (h : SeenOk xs X) (hr : wayR r = false) : SeenOk (xs ++ [r]) X := by
 refine ⟨h.nodup, fun k d => (h.mem k d).trans ⟨fun ⟨s, hs, h1⟩ => ⟨s, List.mem_append.2 (.inl hs), h1⟩, fun ⟨s, hs, h1⟩ => ?_⟩, fun g hg => ?_, ?_⟩
 ·rcases List.mem_append.1 hs with hs | hs
  ·exact ⟨s, hs, h1⟩
  ·rw [List.mem_singleton] at hs; subst hs; rw [hr] at h1; cases h1.1
 ·have := h.len g hg; rw [List.length_append]; omega
 ·have := h.num; rw [List.length_append]; omega
theorem sKey_inj {X : List Sg} (hn : (X.map Sg.k).Nodup) {i j : Nat} (hi : i < X.length) (hj : j < X.length) (e : sKey X i = sKey X j) : i = j := by
 unfold sKey at e
 rw [List.getD_eq_getElem?_getD, List.getElem?_eq_getElem hi, List.getD_eq_getElem?_getD, List.getElem?_eq_getElem hj] at e
 refine (List.getElem?_inj (by simpa using hi) hn).1 ?_
 rw [List.getElem?_map, List.getElem?_map, List.getElem?_eq_getElem hi, List.getElem?_eq_getElem hj]
 simpa using e
theorem SeenOk.hit {xs : List Res} {X : List Sg} {r : Res} (h : SeenOk xs X) (hr : wayR r = true) {n : Nat} (hn : n < X.length) (hk : (X[n]).k = r.from_) (g' : Sg) (hg1 : g'.k = r.from_) (hg2 : g'.ids = (X[n]).ids ++ [r.idn]) : SeenOk (xs ++ [r]) (X.set n g') := by
 refine ⟨?_, fun k d => ⟨fun ⟨g, hg, h1, h2⟩ => ?_, fun ⟨s, hs, h1, h2, h3⟩ => ?_⟩, fun g hg => ?_, ?_⟩
 ·have e : (X.set n g').map Sg.k = X.map Sg.k := by
   rw [List.map_set, hg1, ← hk]
   apply List.ext_getElem?
   intro j
   rw [List.getElem?_set]
   split
   ·rename_i e; subst e; simp [hn]
   ·rfl
  rw [e]; exact h.nodup
 ·rcases List.mem_or_eq_of_mem_set hg with hg | hg
  ·obtain ⟨s, hs, h3⟩ := (h.mem k d).1 ⟨g, hg, h1, h2⟩
   exact ⟨s, List.mem_append.2 (.inl hs), h3⟩
  ·rw [hg, hg1] at h1
   rw [hg, hg2] at h2
   rcases List.mem_append.1 h2 with h2 | h2
   ·obtain ⟨s, hs, h3⟩ := (h.mem k d).1 ⟨X[n], List.getElem_mem hn, by rw [hk, h1], h2⟩
    exact ⟨s, List.mem_append.2 (.inl hs), h3⟩
   ·rw [List.mem_singleton] at h2
    exact ⟨r, List.mem_append.2 (.inr (List.mem_singleton.2 rfl)), hr, h1, h2.symm⟩
 ·have hgm : g' ∈ X.set n g' := List.mem_of_getElem? (List.getElem?_set_self hn)
  rcases List.mem_append.1 hs with hs | hs
  ·obtain ⟨g, hg, h4, h5⟩ := (h.mem k d).2 ⟨s, hs, h1, h2, h3⟩
   obtain ⟨j, hj, rfl⟩ := List.getElem_of_mem hg
   by_cases e : n = j
   ·subst e
    exact ⟨g', hgm, by rw [hg1, ← hk, h4], by rw [hg2]; exact List.mem_append.2 (.inl h5)⟩
   ·exact ⟨X[j], List.mem_of_getElem? (i := j) (by rw [List.getElem?_set_ne e, List.getElem?_eq_getElem hj]), h4, h5⟩
  ·rw [List.mem_singleton] at hs
   subst hs
   exact ⟨g', hgm, by rw [hg1, h2], by rw [hg2, h3]; exact List.mem_append.2 (.inr (List.mem_singleton.2 rfl))⟩
 ·rcases List.mem_or_eq_of_mem_set hg with hg | hg
  ·have := h.len g hg; rw [List.length_append]; omega
  ·have := h.len X[n] (List.getElem_mem hn)
   rw [hg, hg2, List.length_append, List.length_append, List.length_singleton, List.length_singleton]
   omega
 ·have := h.num; rw [List.length_set, List.length_append]; omega
theorem SeenOk.miss {xs : List Res} {X : List Sg} {r : Res} (h : SeenOk xs X) (hr : wayR r = true) (hno : ∀ g ∈ X, g.k ≠ r.from_) (g' : Sg) (hg1 : g'.k = r.from_) (hg2 : g'.ids = [r.idn]) : SeenOk (xs ++ [r]) (X ++ [g']) := by
 refine ⟨?_, fun k d => ⟨fun ⟨g, hg, h1, h2⟩ => ?_, fun ⟨s, hs, h1, h2, h3⟩ => ?_⟩, fun g hg => ?_, ?_⟩
 ·rw [List.map_append, List.nodup_append]
  refine ⟨h.nodup, by simp, fun a ha b hb e => ?_⟩
  obtain ⟨x, hx, rfl⟩ := List.mem_map.1 ha
  rw [List.map_singleton, List.mem_singleton] at hb
  exact hno x hx (by rw [e, hb, hg1])
 ·rcases List.mem_append.1 hg with hg | hg
  ·obtain ⟨s, hs, h3⟩ := (h.mem k d).1 ⟨g, hg, h1, h2⟩
   exact ⟨s, List.mem_append.2 (.inl hs), h3⟩
  ·rw [List.mem_singleton] at hg
   rw [hg, hg1] at h1
   rw [hg, hg2, List.mem_singleton] at h2
   exact ⟨r, List.mem_append.2 (.inr (List.mem_singleton.2 rfl)), hr, h1, h2.symm⟩
 ·rcases List.mem_append.1 hs with hs | hs
  ·obtain ⟨g, hg, h4⟩ := (h.mem k d).2 ⟨s, hs, h1, h2, h3⟩
   exact ⟨g, List.mem_append.2 (.inl hg), h4⟩
  ·rw [List.mem_singleton] at hs
   subst hs
   exact ⟨g', List.mem_append.2 (.inr (List.mem_singleton.2 rfl)), by rw [hg1, h2], by rw [hg2, h3]; exact List.mem_singleton.2 rfl⟩
 ·rw [List.length_append, List.length_singleton]
  rcases List.mem_append.1 hg with hg | hg
  ·have := h.len g hg; omega
  ·rw [List.mem_singleton] at hg; rw [hg, hg2]; simp
 ·have := h.num; rw [List.length_append, List.length_append, List.length_singleton, List.length_singleton]; omega
def SortSome (X Y : List Sg) (seen : List Nat) : Prop :=
 Y.length = X.length ∧ ∀ i, i < X.length → (Y.getD i default).k = (X.getD i default).k ∧ (Y.getD i default).a = (X.getD i default).a ∧ (Y.getD i default).cap = (X.getD i default).cap ∧ (Y.getD i default).ids.Perm (X.getD i default).ids ∧
  (i ∈ seen → (Y.getD i default).ids.Pairwise fun x y => idnLt y x = false)
def seenV (Y : List Sg) (k : Int) : List Idn := match Y.find? (fun g => g.k == k) with
 | some g => g.ids
 | none => []
theorem seenV_at {Y : List Sg} (hn : (Y.map Sg.k).Nodup) {i : Nat} (hi : i < Y.length) : seenV Y (Y[i]).k = (Y[i]).ids := by
 unfold seenV
 cases hf : Y.find? (fun g => g.k == (Y[i]).k) with
 | none =>
  have := List.find?_eq_none.1 hf Y[i] (List.getElem_mem hi)
  simp at this
 | some g =>
  have h1 := List.mem_of_find?_eq_some hf
  have h2 : g.k = (Y[i]).k := by simpa using List.find?_some hf
  obtain ⟨j, hj, rfl⟩ := List.getElem_of_mem h1
  have hij : j = i := (List.getElem?_inj (by simpa using hj) hn).1 (by
   rw [List.getElem?_map, List.getElem?_map, List.getElem?_eq_getElem hi, List.getElem?_eq_getElem hj]
   simp [h2])
  subst hij
  rfl
theorem seenV_none {Y : List Sg} {k : Int} (h : ∀ i, (hi : i < Y.length) → (Y[i]).k ≠ k) : seenV Y k = [] := by
 unfold seenV
 cases hf : Y.find? (fun g => g.k == k) with
 | none => rfl
 | some g =>
  have h1 := List.mem_of_find?_eq_some hf
  have h2 : g.k = k := by simpa using List.find?_some hf
  obtain ⟨j, hj, rfl⟩ := List.getElem_of_mem h1
  exact absurd h2 (h j hj)
theorem seenV_mem {xs : List Res} {X Y : List Sg} (h : SeenOk xs X) {s : List Nat} (hs : SortSome X Y s) (k : Int) (d : Idn) : d ∈ seenV Y k ↔ ∃ r ∈ xs, wayR r = true ∧ r.from_ = k ∧ r.idn = d := by
 have hk : Y.map Sg.k = X.map Sg.k := by
  apply List.ext_getElem
  ·simp [hs.1]
  ·intro i h1 h2
   rw [List.length_map] at h1 h2
   have := (hs.2 i h2).1
   rw [List.getD_eq_getElem?_getD, List.getElem?_eq_getElem h1, List.getD_eq_getElem?_getD, List.getElem?_eq_getElem h2] at this
   simpa using this
 have hn : (Y.map Sg.k).Nodup := by rw [hk]; exact h.nodup
 have hp : ∀ i, (h1 : i < Y.length) → (h2 : i < X.length) → (Y[i]).k = (X[i]).k ∧ (Y[i]).ids.Perm (X[i]).ids := fun i h1 h2 => by
  obtain ⟨a1, _, _, a2, _⟩ := hs.2 i h2
  rw [List.getD_eq_getElem?_getD, List.getElem?_eq_getElem h1, List.getD_eq_getElem?_getD, List.getElem?_eq_getElem h2] at a1 a2
  exact ⟨a1, a2⟩
 rw [← h.mem k d]
 constructor
 ·intro hd
  by_cases hex : ∃ i, ∃ hi : i < Y.length, (Y[i]).k = k
  ·obtain ⟨i, hi, rfl⟩ := hex
   rw [seenV_at hn hi] at hd
   have hiX : i < X.length := by have := hs.1; omega
   obtain ⟨b1, b2⟩ := hp i hi hiX
   exact ⟨X[i], List.getElem_mem hiX, b1.symm, b2.mem_iff.1 hd⟩
  ·rw [seenV_none fun i hi e => hex ⟨i, hi, e⟩] at hd
   cases hd
 ·rintro ⟨g, hg, rfl, hd⟩
  obtain ⟨i, hi, rfl⟩ := List.getElem_of_mem hg
  have hiY : i < Y.length := by have := hs.1; omega
  obtain ⟨b1, b2⟩ := hp i hiY hi
  rw [← b1, seenV_at hn hiY]
  exact b2.mem_iff.2 hd
def MatC (xs : List Res) (e : Evd) : Prop := ∃ p, IsPart xs p ∧ ∃ a ∈ p, ∃ b ∈ p, folR a b = true ∧ ∃ c ∈ xs, wayR c = true ∧ c.from_ ∈ msV b.from_ ∧ c.from_ ≠ a.from_ ∧ MatE a.idn b.idn c.idn a.from_ c.from_ e
structure MatOf (xs : List Res) (es : List Evd) : Prop where
 best : BestOf Evd.pr evB (MatC xs) es
 len : ∀ e ∈ es, e.ids.length ≤ 3
theorem togR_iff {a b : Res} : togR a b = true ↔ a.ttl ≠ b.ttl ∧ a.flow = b.flow ∧ a.tre = b.tre ∧ wayR a = true ∧ wayR b = true := by
 unfold togR
 simp only [Bool.and_eq_true, bne_iff_ne, ne_eq, beq_iff_eq, decide_eq_true_eq]
theorem folR_iff {a b : Res} : folR a b = true ↔ togR a b = true ∧ b.ttl = a.ttl + 1 ∧ a.from_ ≠ b.from_ := by
 unfold folR
 simp only [Bool.and_eq_true, bne_iff_ne, ne_eq, beq_iff_eq]
theorem flows_mat {xs : List Res} {gs : List (List Res)} (h : FlowsOf xs gs) {V : Int → List Idn} (hV : ∀ k d, d ∈ V k ↔ ∃ r ∈ xs, wayR r = true ∧ r.from_ = k ∧ r.idn = d) (e : Evd) :
  (∃ g ∈ gs, ∃ a ∈ g, ∃ b ∈ g, folR a b = true ∧ ∃ m ∈ msV b.from_, m ≠ a.from_ ∧ ∃ d ∈ V m, MatE a.idn b.idn d a.from_ m e) ↔ MatC xs e := by
 constructor
 ·rintro ⟨g, hg, a, ha, b, hb, h1, m, hm, hma, d, hd, h2⟩
  obtain ⟨p, hp, fl, h3⟩ := h.snd g hg
  obtain ⟨c, hc, wc, rfl, rfl⟩ := (hV _ _).1 hd
  exact ⟨p, hp, a, (h3 a ha).1, b, (h3 b hb).1, h1, c, hc, wc, hm, hma, h2⟩
 ·rintro ⟨p, hp, a, ha, b, hb, h1, c, hc, wc, hm, hma, h2⟩
  obtain ⟨_, hf, _, wa, wb⟩ := togR_iff.1 (folR_iff.1 h1).1
  obtain ⟨g, hg, g1, g2⟩ := h.cmp p hp a ha b hb wa wb hf
  exact ⟨g, hg, a, g1, b, g2, h1, c.from_, hm, hma, c.idn, (hV _ _).2 ⟨c, hc, wc, rfl, rfl⟩, h2⟩
theorem matC_len {xs : List Res} {X : List Evd} (hl : xs.length ≤ 512) (h : BestI Evd.pr evB (MatC xs) X) : X.length ≤ 262144 := by
 have h1 := best_len (la := xs.map Res.from_) (lb := xs.map Res.from_) h (fun x hx => by
  obtain ⟨p, hp, a, ha, b, hb, _, c, hc, _, _, _, he⟩ := hx
  have h1 : a.from_ ∈ xs.map Res.from_ := List.mem_map.2 ⟨a, (hp.sub a ha).1, rfl⟩
  have h2 : c.from_ ∈ xs.map Res.from_ := List.mem_map.2 ⟨c, hc, rfl⟩
  rw [he.pr]
  refine ⟨?_, ?_⟩
  ·rcases Int.le_total a.from_ c.from_ with h3 | h3
   ·simp only [Int.min_eq_left h3]; exact h1
   ·simp only [Int.min_eq_right h3]; exact h2
  ·rcases Int.le_total a.from_ c.from_ with h3 | h3
   ·simp only [Int.max_eq_right h3]; exact h2
   ·simp only [Int.max_eq_left h3]; exact h1)
 rw [List.length_map] at h1
 exact Nat.le_trans h1 (Nat.le_trans (Nat.mul_le_mul hl hl) (by decide))
end Go.Proofs.YtfeiiadligkamaaGreat


/- The reference's order of identities and of evidence, by the evaluator: CompareID, Compare, SameEvidence. -/
namespace Go.Proofs.YtfeiiadligkamaaGreat
open Go.Sort Eng
end Go.Proofs.YtfeiiadligkamaaGreat


/- Evidence, by the evaluator: paths.Find, common.ValidEvidence, common.Holds. -/
namespace Go.Proofs.YtfeiiadligkamaaGreat
open Go.Sort Eng
def findP (o : Option Res) (r : Res) (d : Idn) : Bool := decide (r.idn = d) && ((match o with | none => true | some b => decide (wCompare r b < 0)) && validR r)
def findStep (d : Idn) (o : Option Res) (r : Res) : Option Res := if findP o r d = true then some r else o
def findV (xs : List Res) (d : Idn) : Option Res := xs.foldl (findStep d) none
theorem findP_1 {o : Option Res} {r : Res} {d : Idn} (h : (⟨r.vantage, r.run, r.number⟩ : Idn) = ⟨d.van, d.run, d.num⟩) (ho : (!o.isSome) = true) : validR r = findP o r d := by
  have e : r.idn = d := h
  cases o with
  | none => unfold findP; rw [decide_eq_true e]; rfl
  | some b => cases ho
theorem findP_2 {o : Option Res} {r : Res} {d : Idn} (h : (⟨r.vantage, r.run, r.number⟩ : Idn) = ⟨d.van, d.run, d.num⟩) (ho : (!o.isSome) = false) (hc : wCompare r (o.getD default) < 0) : validR r = findP o r d := by
  have e : r.idn = d := h
  cases o with
  | none => cases ho
  | some b => unfold findP; rw [decide_eq_true e]; simp only [decide_eq_true (show wCompare r b < 0 from hc)]; rfl
theorem findP_3 {o : Option Res} {r : Res} {d : Idn} (ho : (!o.isSome) = false) (hc : ¬ wCompare r (o.getD default) < 0) : false = findP o r d := by
  cases o with
  | none => cases ho
  | some b => unfold findP; simp only [decide_eq_false (show ¬ wCompare r b < 0 from hc), Bool.false_and, Bool.and_false]
theorem findP_4 {o : Option Res} {r : Res} {d : Idn} (h : ¬ (⟨r.vantage, r.run, r.number⟩ : Idn) = ⟨d.van, d.run, d.num⟩) : false = findP o r d := by
  have e : ¬ r.idn = d := h
  unfold findP; rw [decide_eq_false e]; rfl
theorem findV_take (xs : List Res) (d : Idn) (i : Nat) (h : i < xs.length) : findV (xs.take (i + 1)) d = findStep d (findV (xs.take i) d) xs[i] := by
  unfold findV
  rw [List.take_succ_eq_append_getElem h, List.foldl_append]
  rfl
theorem findV_some {d : Idn} : ∀ {xs : List Res} {o : Option Res} {r : Res}, xs.foldl (findStep d) o = some r → (r ∈ xs ∧ validR r = true ∧ r.idn = d) ∨ o = some r
  | [], o, r, h => .inr h
  | x :: xs, o, r, h => by
    rcases findV_some (xs := xs) h with ⟨h1, h2⟩ | h1
    · exact .inl ⟨by simp [h1], h2⟩
    · unfold findStep at h1
      split at h1
      · rename_i hp
        cases h1
        simp only [findP, Bool.and_eq_true, decide_eq_true_eq] at hp
        exact .inl ⟨by simp, hp.2.2, hp.1⟩
      · exact .inr h1
theorem findV_none {d : Idn} : ∀ {xs : List Res} {o : Option Res}, xs.foldl (findStep d) o = none → o = none ∧ ∀ r ∈ xs, validR r = true → r.idn ≠ d
  | [], o, h => ⟨h, fun r hr => by cases hr⟩
  | x :: xs, o, h => by
    obtain ⟨h1, h2⟩ := findV_none (xs := xs) h
    unfold findStep at h1
    split at h1
    · cases h1
    · rename_i hp
      subst h1
      refine ⟨rfl, fun r hr hv he => ?_⟩
      rcases List.mem_cons.1 hr with rfl | hr
      · exact hp (by simp [findP, he, hv])
      · exact h2 r hr hv he
def findS : Option Res → SV
  | some r => tupL [resAg r, .b true]
  | none => tupL [resAg default, .b false]
theorem findS_ok (o : Option Res) (R : Nat → Prop) (w : World) : (findS o).ok R w := by
  cases o <;>
  · intro j hj
    have hj2 : j < 2 := hj
    rcases (show j = 0 ∨ j = 1 by omega) with rfl | rfl
    · exact ok_aggL (l := Res.cs _) rfl R w
    · trivial
theorem id_eqs (a b c a' b' c' : Int) : aggEq Tryz.prog 27 3 (fun j => [SV.i .i64 a, .i .i64 b, .i .i64 c].getD j default) 3 (fun j => [SV.i .i64 a', .i .i64 b', .i .i64 c'].getD j default) = some ([a == a', b == b', c == c'].all id) := by kernel_rfl
theorem id_eq (a b c a' b' c' : Int) : aggEq Tryz.prog 27 3 (fun j => [SV.i .i64 a, .i .i64 b, .i .i64 c].getD j default) 3 (fun j => [SV.i .i64 a', .i .i64 b', .i .i64 c'].getD j default) = some (decide ((⟨a, b, c⟩ : Idn) = ⟨a', b', c'⟩)) := by
  rw [id_eqs]
  congr 1
  apply Bool.eq_iff_iff.2
  simp
set_option maxHeartbeats 1000000 in
set_option maxRecDepth 100000 in
theorem findC (F : Frm) (ad : Option Addr) (cap : Nat) (xs : List Res) (d : Idn) (hl : xs.length ≤ 1000000000) :
    Contract F Tryz.prog 68 [.sl ad xs.length cap 17 (resRd xs.toArray), idnAg d] (fun r => r = findS (findV xs d)) := by
  refine contract_of Tryz.func68 rfl (by kernel_rfl) ?_
  simp only [Tryz.ntmps68, argEnv, idnAg, Idn.cs]
  (repeat refine Sat.seq ?_)
  (refine Sat.region_k fun k hk => ?_; simp -implicitDefEqProofs only [evr, id, seval, res_one, par_one, idn_one, idn_0, idn_1, idn_2, resRow, res_ro, rExtract_tup, id_eq, idAg, evn])
  intro b3 b4
  (refine hk _ ?_; clear hk k; try show Sat _ _ _ _ _)
  (repeat refine Sat.seq ?_)
  (refine Sat.region_k fun k hk => ?_; simp -implicitDefEqProofs only [evr, id, seval, res_one, par_one, idn_one, idn_0, idn_1, idn_2, resRow, res_ro, rExtract_tup, id_eq, idAg, evn])
  intro b6
  (refine hk _ ?_; clear hk k; try show Sat _ _ _ _ _)
  (repeat refine Sat.seq ?_)
  (refine Sat.region_k fun k hk => ?_; simp -implicitDefEqProofs only [evr, id, seval, res_one, par_one, idn_one, idn_0, idn_1, idn_2, resRow, res_ro, rExtract_tup, id_eq, idAg, evn]; refine hk _ ?_; clear hk k; try show Sat _ _ _ _ _)
  (repeat refine Sat.seq ?_)
  (refine Sat.region_k fun k hk => ?_; simp -implicitDefEqProofs only [evr, id, seval, res_one, par_one, idn_one, idn_0, idn_1, idn_2, resRow, res_ro, rExtract_tup, id_eq, idAg, evn]; refine hk _ ?_; clear hk k; try show Sat _ _ _ _ _)
  (repeat refine Sat.seq ?_)
  refine Sat.block ?_
  refine Sat.loop (ι := Nat × Option Res) (fun z => ⟨38, [(12, .i .i64 z.1), (11, .i .i64 xs.length), (10, .sl ad xs.length cap 17 (resRd xs.toArray)), (7, .b z.2.isSome), (6, .op 2 b6 0), (4, .op 1 b4 0), (3, .op 0 b3 0)],
      [.box b3 27 [.i .i64 d.van, .i .i64 d.run, .i .i64 d.num], .box b4 62 (Res.cs default), .box b6 62 (Res.cs (z.2.getD default))]⟩)
    (fun z => z.1 ≤ xs.length ∧ z.2 = findV (xs.take z.1) d) (fun z => xs.length - z.1) (0, none) ⟨Nat.zero_le _, rfl⟩ (by
      simp only [Option.getD_none, Option.isSome_none, Res.cs]
      simp -implicitDefEqProofs only [evr, id, seval, res_one, par_one, idn_one, idn_0, idn_1, idn_2, resRow, res_ro, rExtract_tup, id_eq, idAg, evl, evn]
      first | done | rfl | exact ⟨rfl, rfl⟩ | trace_state) ?_
  rintro ⟨i, o⟩ ⟨hi, ho⟩
  simp only [Res.cs] at hi ho ⊢
  (repeat refine Sat.seq ?_)
  (refine Sat.region_k fun k hk => ?_; simp -implicitDefEqProofs only [evr, id, seval, res_one, par_one, idn_one, idn_0, idn_1, idn_2, resRow, res_ro, rExtract_tup, id_eq, idAg, evn]; refine hk _ ?_; clear hk k; try show Sat _ _ _ _ _)
  (repeat refine Sat.seq ?_)
  refine Sat.cond_b rfl (fun h => ?_) (fun h => ?_)
  · have h1 : i < xs.length := by simp only [decide_eq_true_eq] at h; omega
    have e1 : IntKind.i64.wrap ((i : Int) + 1) = ((i + 1 : Nat) : Int) := by rw [w64 (by omega)]; omega
    have hst := findV_take xs d i h1
    rw [← ho] at hst
    refine Sat.skip ?_
    simp only [thenK]
    (repeat refine Sat.seq ?_)
    refine Sat.block ?_
    (repeat refine Sat.seq ?_)
    (refine Sat.region_k fun k hk => ?_; simp -implicitDefEqProofs only [evr, id, seval, res_one, par_one, idn_one, idn_0, idn_1, idn_2, resRow, res_ro, rExtract_tup, id_eq, idAg, evn])
    refine ⟨by omega, fun b9 => ?_⟩
    (refine hk _ ?_; clear hk k; try show Sat _ _ _ _ _)
    obtain ⟨r, hr⟩ : ∃ r, r = xs.toArray[i]! := ⟨_, rfl⟩
    have hrx : xs[i] = r := by rw [hr]; simp [getElem!_def, h1]
    rw [hrx] at hst
    (repeat refine Sat.seq ?_)
    refine Sat.joinK (ι := Bool) (fun q => ⟨38, [(33, .b q), (9, .op 3 b9 0), (12, .i .i64 i), (11, .i .i64 xs.length), (10, .sl ad xs.length cap 17 (resRd xs.toArray)), (7, .b o.isSome), (6, .op 2 b6 0), (4, .op 1 b4 0), (3, .op 0 b3 0)], [.box b3 27 [.i .i64 d.van, .i .i64 d.run, .i .i64 d.num], .box b4 62 (Res.cs default), .box b6 62 (Res.cs (o.getD default)), .box b9 62 [resRd xs.toArray i 0, resRd xs.toArray i 1, resRd xs.toArray i 2, resRd xs.toArray i 3, resRd xs.toArray i 4, resRd xs.toArray i 5, resRd xs.toArray i 6, resRd xs.toArray i 7, resRd xs.toArray i 8, resRd xs.toArray i 9, resRd xs.toArray i 10, resRd xs.toArray i 11, resRd xs.toArray i 12, resRd xs.toArray i 13, resRd xs.toArray i 14, resRd xs.toArray i 15, resRd xs.toArray i 16]]⟩) (fun q => q = findP o r d) (fun hrest => ?_) ?_
    · (refine Sat.region_tree (.keep [0, 2] [1] (.one 1 (.one 3 (.one 4 (.one 5 (.one 6 (.one 7 (.alt 8 (.one 9 (.one 10 (.one 11 (.one 12 (.one 13 (.one 14 (.one 15 (.one 16 (.one 17 .done))))))))) (.alt 9 (.one 8 (.one 10 (.one 11 (.one 12 (.one 13 (.one 14 (.one 15 (.one 16 (.one 17 .done))))))))) .none))))))))) (by kernel_rfl) (by kernel_rfl) (fun _ _ h => h) fun k hk => ?_; simp only [WOT, List.map_cons, List.map_nil, List.getD_cons_zero, List.getD_cons_succ]; simp -implicitDefEqProofs only [evr, id, seval, res_one, par_one, idn_one, idn_0, idn_1, idn_2, resRow, res_ro, rExtract_tup, id_eq, idAg, WOT, evn])
      refine wcall_plain (identC F xs.toArray[i]!) rfl (by rintro _ rfl; exact ok_aggL (l := [SV.i .i64 _, .i .i64 _, .i .i64 _]) rfl) ?_
      rintro _ rfl
      rw [← hr]
      simp -implicitDefEqProofs only [evr, id, seval, res_one, par_one, idn_one, idn_0, idn_1, idn_2, resRow, res_ro, rExtract_tup, id_eq, idAg, evn]
      repeat' (first
        | (with_reducible refine And.intro ?_ ?_)
        | (with_reducible intro _)
        | (refine wcall_plain (validC F xs.toArray[i]!) rfl (by rintro _ rfl; exact ok_plain rfl) ?_
           rintro _ rfl
           rw [← hr]
           simp -implicitDefEqProofs only [evr, id, seval, res_one, par_one, idn_one, idn_0, idn_1, idn_2, resRow, res_ro, rExtract_tup, id_eq, idAg, evn])
        | (refine wcall_plain (pcompareC F xs.toArray[i]! (o.getD default)) rfl (by rintro _ rfl; exact ok_plain rfl) ?_
           rintro _ rfl
           rw [← hr]
           simp -implicitDefEqProofs only [evr, id, seval, res_one, par_one, idn_one, idn_0, idn_1, idn_2, resRow, res_ro, rExtract_tup, id_eq, idAg, evn])
        | (refine hk _ ?_
           simp only [thenK]
           first
           | (refine (hrest _ (findP_1 (by assumption) (by assumption))).le ?_
              simp only [Res.cs]
              simp -implicitDefEqProofs only [evr, id, seval, res_one, par_one, idn_one, idn_0, idn_1, idn_2, resRow, res_ro, rExtract_tup, id_eq, idAg, evl, evn]
              done)
           | (refine (hrest _ (findP_2 (by assumption) (by assumption) (by assumption))).le ?_
              simp only [Res.cs]
              simp -implicitDefEqProofs only [evr, id, seval, res_one, par_one, idn_one, idn_0, idn_1, idn_2, resRow, res_ro, rExtract_tup, id_eq, idAg, evl, evn]
              done)
           | (refine (hrest _ (findP_3 (by assumption) (by assumption))).le ?_
              simp only [Res.cs]
              simp -implicitDefEqProofs only [evr, id, seval, res_one, par_one, idn_one, idn_0, idn_1, idn_2, resRow, res_ro, rExtract_tup, id_eq, idAg, evl, evn]
              done)
           | (refine (hrest _ (findP_4 (by assumption))).le ?_
              simp only [Res.cs]
              simp -implicitDefEqProofs only [evr, id, seval, res_one, par_one, idn_one, idn_0, idn_1, idn_2, resRow, res_ro, rExtract_tup, id_eq, idAg, evl, evn]
              done)))
    rintro q rfl
    simp only [Res.cs]
    refine Sat.atF (ι := Option Res) (fun z => ⟨38, [(12, .i .i64 i), (11, .i .i64 xs.length), (10, .sl ad xs.length cap 17 (resRd xs.toArray)), (7, .b z.isSome), (6, .op 2 b6 0), (4, .op 1 b4 0), (3, .op 0 b3 0)],
      [.box b3 27 [.i .i64 d.van, .i .i64 d.run, .i .i64 d.num], .box b4 62 (Res.cs default), .box b6 62 (Res.cs (z.getD default))]⟩) (fun z => z = findStep d o r) ?_ ?_
    · refine Sat.cond_b rfl (fun h2 => ?_) (fun h2 => ?_)
      · (refine Sat.region_k fun k hk => ?_; simp -implicitDefEqProofs only [evr, id, seval, res_one, par_one, idn_one, idn_0, idn_1, idn_2, resRow, res_ro, rExtract_tup, id_eq, idAg, evn]; refine hk _ ?_; clear hk k; try show Sat _ _ _ _ _)
        simp only [thenK]
        refine ⟨some r, by unfold findStep; rw [if_pos h2], ?_⟩
        simp only [Res.cs, Option.getD_some, Option.isSome_some]
        simp -implicitDefEqProofs only [evr, id, seval, res_one, par_one, idn_one, idn_0, idn_1, idn_2, resRow, res_ro, rExtract_tup, id_eq, idAg, evl, evn]
        rw [hr]
        rfl
      · refine Sat.skip ?_
        simp only [thenK]
        refine ⟨o, by unfold findStep; rw [if_neg (by rw [h2]; decide)], ?_⟩
        simp only [Res.cs]
        simp -implicitDefEqProofs only [evr, id, seval, res_one, par_one, idn_one, idn_0, idn_1, idn_2, resRow, res_ro, rExtract_tup, id_eq, idAg, evl, evn]
    rintro z hz
    simp only [thenK, blockK, Res.cs]
    refine Sat.region_k fun k hk => ?_
    simp -implicitDefEqProofs only [evr, id, seval, res_one, par_one, idn_one, idn_0, idn_1, idn_2, resRow, res_ro, rExtract_tup, id_eq, idAg, e1, evn]
    refine hk _ ?_
    simp only [thenK, blockK]
    refine ⟨(i + 1, z), ⟨h1, by rw [hz, ← hst]⟩, by simp only; omega, ?_⟩
    simp only [Res.cs]
    simp -implicitDefEqProofs only [evr, id, seval, res_one, par_one, idn_one, idn_0, idn_1, idn_2, resRow, res_ro, rExtract_tup, id_eq, idAg, evl, evn]
  · have h1 : i = xs.length := by simp only [decide_eq_false_iff_not] at h; omega
    subst h1
    rw [List.take_length] at ho
    refine Sat.exit ?_
    simp only [thenK, blockK, reduceIte]
    (repeat refine Sat.seq ?_)
    (refine Sat.region_k fun k hk => ?_; simp -implicitDefEqProofs only [evr, id, seval, res_one, par_one, idn_one, idn_0, idn_1, idn_2, resRow, res_ro, rExtract_tup, id_eq, idAg, evn]; refine hk _ ?_; clear hk k; try show Sat _ _ _ _ _)
    refine Sat.ret ?_
    simp only [Tryz.results68, evr, id, seval, res_one, par_one, idn_one, idn_0, idn_1, idn_2, List.append_nil, Int.toNat_zero, Nat.sub_self, Int.reduceToNat, resRow, res_ro, rExtract_tup, id_eq, idAg]
    rw [← ho]
    cases o <;> rfl
end Go.Proofs.YtfeiiadligkamaaGreat


/- Evidence, by the evaluator: common.ValidEvidence, common.Holds. -/
namespace Go.Proofs.YtfeiiadligkamaaGreat
open Go.Sort Eng
theorem par_eqs (a b a' b' : Int) : aggEq Tryz.prog 90 2 (fun j => [SV.i .u32 a, .i .u32 b].getD j default) 2 (fun j => [SV.i .u32 a', .i .u32 b'].getD j default) = some ([a == a', b == b'].all id) := by kernel_rfl
theorem par_eq (a b a' b' : Int) : aggEq Tryz.prog 90 2 (fun j => [SV.i .u32 a, .i .u32 b].getD j default) 2 (fun j => [SV.i .u32 a', .i .u32 b'].getD j default) = some (decide ((⟨a, b⟩ : Par) = ⟨a', b'⟩)) := by
 rw [par_eqs]
 congr 1
 apply Bool.eq_iff_iff.2
 simp
def evPre (e : Evd) : Bool := decide ((1 ≤ e.kind ∧ e.kind ≤ 3) ∧ e.a ≠ 0 ∧ e.a < e.b ∧ e.ids.length ≠ 0)
def idsAsc (l : List Idn) : Bool := decide (∀ i, i < l.length - 1 → idnLt (l.getD i default) (l.getD (i + 1) default) = true)
def validEv (e : Evd) : Bool := evPre e && idsAsc e.ids
theorem idsAsc_iff {l : List Idn} : idsAsc l = true ↔ l.Pairwise fun x y => idnLt x y = true := by
 unfold idsAsc
 rw [decide_eq_true_eq]
 constructor
 ·intro h
  induction l with
  | nil => exact .nil
  | cons x l ih =>
   have h2 : ∀ i, i < l.length - 1 → idnLt (l.getD i default) (l.getD (i + 1) default) = true := fun i hi => h (i + 1) (by simp only [List.length_cons]; omega)
   refine List.pairwise_cons.2 ⟨?_, ih h2⟩
   have ihp := ih h2
   cases l with
   | nil => intro y hy; cases hy
   | cons z l =>
    have h0 : idnLt x z = true := h 0 (by simp)
    intro y hy
    rcases List.mem_cons.1 hy with rfl | hy
    ·exact h0
    ·exact idnLt_trans _ _ _ h0 ((List.pairwise_cons.1 ihp).1 y hy)
 ·intro h i hi
  replace hi : i + 1 < l.length := by omega
  have := List.pairwise_iff_getElem.1 h i (i + 1) (by omega) hi (by omega)
  rwa [List.getD_eq_getElem?_getD, List.getElem?_eq_getElem (show i < l.length by omega), List.getD_eq_getElem?_getD, List.getElem?_eq_getElem hi]
set_option maxHeartbeats 1000000 in
set_option maxRecDepth 100000 in
theorem validEvC (F : Frm) (e : Evd) (he : e.ids.length ≤ 1000000000) : Contract F Tryz.prog 73 [evAg e] (fun r => r = .b (validEv e)) := by
 refine contract_of Tryz.func73 rfl (by kernel_rfl) ?_
 simp only [Tryz.ntmps73, argEnv, evAg, Evd.cs]
 (repeat refine Sat.seq ?_)
 (refine Sat.region_k fun k hk => ?_; simp -implicitDefEqProofs only [evr, id, seval, res_one, par_one, idn_one, idn_0, idn_1, idn_2, resRow, res_ro, rExtract_tup, par_eq, evn])
 intro b1
 (refine hk _ ?_; clear hk k; try show Sat _ _ _ _ _)
 (repeat refine Sat.seq ?_)
 refine Sat.atF (ι := Bool) (fun q => ⟨50, [(29, .b q), (1, .op 0 b1 0), (2, .ff)], [.box b1 32 (Evd.cs e)]⟩) (fun q => q = !evPre e) ?_ ?_
 ·(refine Sat.region_k fun k hk => ?_; simp -implicitDefEqProofs only [evr, id, seval, res_one, par_one, idn_one, idn_0, idn_1, idn_2, resRow, res_ro, rExtract_tup, par_eq, evn])
  refine ⟨fun h1 => ?_, fun h1 => ⟨fun h2 => ?_, fun h2 => ⟨fun h3 => ?_, fun h3 => ⟨fun h4 => ?_, fun h4 => ?_⟩⟩⟩⟩
  ·refine hk _ ?_
   simp only [thenK]
   refine ⟨true, by unfold evPre; symm; rw [Bool.not_eq_true', decide_eq_false_iff_not]; omega, ?_⟩
   simp only [Evd.cs]
   simp -implicitDefEqProofs only [evr, id, seval, res_one, par_one, idn_one, idn_0, idn_1, idn_2, resRow, res_ro, rExtract_tup, par_eq, evl, evn]
  ·refine hk _ ?_
   simp only [thenK]
   refine ⟨true, by unfold evPre; symm; rw [Bool.not_eq_true', decide_eq_false_iff_not]; omega, ?_⟩
   simp only [Evd.cs]
   simp -implicitDefEqProofs only [evr, id, seval, res_one, par_one, idn_one, idn_0, idn_1, idn_2, resRow, res_ro, rExtract_tup, par_eq, evl, evn]
  ·refine hk _ ?_
   simp only [thenK]
   refine ⟨true, by unfold evPre; symm; rw [Bool.not_eq_true', decide_eq_false_iff_not]; (rw [beq_iff_eq] at h3; exact fun hh => hh.2.1 h3), ?_⟩
   simp only [Evd.cs]
   simp -implicitDefEqProofs only [evr, id, seval, res_one, par_one, idn_one, idn_0, idn_1, idn_2, resRow, res_ro, rExtract_tup, par_eq, evl, evn]
  ·refine hk _ ?_
   simp only [thenK]
   refine ⟨true, by unfold evPre; symm; rw [Bool.not_eq_true', decide_eq_false_iff_not]; omega, ?_⟩
   simp only [Evd.cs]
   simp -implicitDefEqProofs only [evr, id, seval, res_one, par_one, idn_one, idn_0, idn_1, idn_2, resRow, res_ro, rExtract_tup, par_eq, evl, evn]
  ·refine hk _ ?_
   simp only [thenK]
   refine ⟨((e.ids.length : Int) == 0), ?_, ?_⟩
   rotate_left
   ·simp only [Evd.cs]
    simp -implicitDefEqProofs only [evr, id, seval, res_one, par_one, idn_one, idn_0, idn_1, idn_2, resRow, res_ro, rExtract_tup, par_eq, evl, evn]
   ·rw [beq_eq_false_iff_ne] at h3
    unfold evPre
    by_cases h5 : e.ids.length = 0
    ·simp [h5]
    ·have a1 : ((e.ids.length : Int) == 0) = false := by rw [beq_eq_false_iff_ne]; omega
     rw [a1, decide_eq_true ⟨⟨by omega, by omega⟩, h3, by omega, h5⟩]
     rfl
 rintro q rfl
 simp only [Evd.cs]
 (repeat refine Sat.seq ?_)
 refine Sat.cond_b rfl (fun h => ?_) (fun h => ?_)
 ·have hp : evPre e = false := by simpa using h
  (repeat refine Sat.seq ?_)
  (refine Sat.region_k fun k hk => ?_; simp -implicitDefEqProofs only [evr, id, seval, res_one, par_one, idn_one, idn_0, idn_1, idn_2, resRow, res_ro, rExtract_tup, par_eq, evn]; refine hk _ ?_; clear hk k; try show Sat _ _ _ _ _)
  refine Sat.ret ?_
  simp only [Tryz.results73, evr, id, seval, res_one, par_one, idn_one, idn_0, idn_1, idn_2, List.append_nil, Int.toNat_zero, Nat.sub_self, Int.reduceToNat, resRow, res_ro, rExtract_tup, par_eq]
  unfold validEv
  rw [hp]
  rfl
 have hp : evPre e = true := by simpa using h
 refine Sat.skip ?_
 simp only [thenK]
 have hlen : e.ids.length ≠ 0 := by
  unfold evPre at hp
  exact (of_decide_eq_true hp).2.2.2
 (repeat refine Sat.seq ?_)
 (refine Sat.region_k fun k hk => ?_; simp -implicitDefEqProofs only [evr, id, seval, res_one, par_one, idn_one, idn_0, idn_1, idn_2, resRow, res_ro, rExtract_tup, par_eq, evn]; refine hk _ ?_; clear hk k; try show Sat _ _ _ _ _)
 (repeat refine Sat.seq ?_)
 refine Sat.block ?_
 refine Sat.loop (ι := Nat) (fun i => ⟨50, [(3, .i .i64 i), (1, .op 0 b1 0), (2, .ff)], [.box b1 32 [.i .i64 e.kind, .i .u32 e.a, .i .u32 e.b, .sl e.ad e.ids.length e.cap 3 (idnRd e.ids.toArray)]]⟩)
  (fun i => 1 ≤ i ∧ i ≤ e.ids.length ∧ ∀ q, q + 1 < i → idnLt (e.ids.getD q default) (e.ids.getD (q + 1) default) = true) (fun i => e.ids.length - i) 1 ⟨Nat.le_refl _, by omega, fun q hq => by omega⟩ (by simp -implicitDefEqProofs only [evr, id, seval, res_one, par_one, idn_one, idn_0, idn_1, idn_2, resRow, res_ro, rExtract_tup, par_eq, evl, evn]; try rfl) ?_
 rintro i ⟨hi1, hi, hq⟩
 (repeat refine Sat.seq ?_)
 (refine Sat.region_k fun k hk => ?_; simp -implicitDefEqProofs only [evr, id, seval, res_one, par_one, idn_one, idn_0, idn_1, idn_2, resRow, res_ro, rExtract_tup, par_eq, evn]; refine hk _ ?_; clear hk k; try show Sat _ _ _ _ _)
 (repeat refine Sat.seq ?_)
 refine Sat.cond_b rfl (fun h2 => ?_) (fun h2 => ?_)
 ·have hlt : i < e.ids.length := by simp only [decide_eq_true_eq] at h2; omega
  have e1 : IntKind.i64.wrap ((i : Int) + 1) = ((i + 1 : Nat) : Int) := by rw [w64 (by omega)]; omega
  have e2 : IntKind.i64.wrap ((i : Int) - 1) = ((i - 1 : Nat) : Int) := by rw [w64 (by omega)]; omega
  refine Sat.skip ?_
  simp only [thenK]
  (repeat refine Sat.seq ?_)
  refine Sat.block ?_
  (repeat refine Sat.seq ?_)
  (refine Sat.region_rows [⟨0, 38, 2, 0⟩, ⟨1, 39, 137438953472, 1⟩, ⟨0, 40, 8, 0⟩, ⟨4, 41, 549755813888, 0⟩, ⟨10, 42, 1374389534720, 0⟩, ⟨16, 43, 2199023255552, 1⟩, ⟨0, 44, 2, 0⟩, ⟨64, 45, 8796093022208, 1⟩, ⟨0, 46, 8, 0⟩, ⟨384, 47, 52776558133248, 0⟩, ⟨512, 48, 70368744177664, 1⟩, ⟨1056, 49, 145135534866432, 2⟩, ⟨2048, 50, 281474976710656, 0⟩] [0, 2, 3, 6, 8, 1, 7, 4, 9, 5, 10] [(11, false), (12, false)] [] (by kernel_rfl) (by kernel_rfl) (fun _ _ h => h) fun k hk => ?_; simp only [List.map_cons, List.map_nil, List.getD_cons_zero, List.getD_cons_succ, btseq_cons, btseq_free, btseq_nil]; simp -implicitDefEqProofs only [evr, id, seval, res_one, par_one, idn_one, idn_0, idn_1, idn_2, resRow, res_ro, rExtract_tup, par_eq, evn])
  simp only [e2, Int.toNat_natCast]
  refine ⟨⟨by omega, by omega⟩, by omega, ?_⟩
  refine wcall_plain (compareIdC F e.ids.toArray[i - 1]! e.ids.toArray[i]!) rfl (by rintro _ rfl; exact ok_plain rfl) ?_
  rintro _ rfl
  simp -implicitDefEqProofs only [evr, id, seval, res_one, par_one, idn_one, idn_0, idn_1, idn_2, resRow, res_ro, rExtract_tup, par_eq, evn]
  (refine hk _ ?_; clear hk k; try show Sat _ _ _ _ _)
  have g1 : e.ids.toArray[i - 1]! = e.ids.getD (i - 1) default := by simp [getElem!_def, List.getD, show i - 1 < e.ids.length by omega]
  have g2 : e.ids.toArray[i]! = e.ids.getD i default := by simp [getElem!_def, List.getD, hlt]
  rw [g1, g2]
  (repeat refine Sat.seq ?_)
  refine Sat.cond_b rfl (fun h3 => ?_) (fun h3 => ?_)
  ·have hno : idnLt (e.ids.getD (i - 1) default) (e.ids.getD i default) = false := by
    unfold idnLt
    simp only [decide_eq_true_eq, ge_iff_le] at h3
    rw [decide_eq_false_iff_not]
    omega
   (repeat refine Sat.seq ?_)
   (refine Sat.region_k fun k hk => ?_; simp -implicitDefEqProofs only [evr, id, seval, res_one, par_one, idn_one, idn_0, idn_1, idn_2, resRow, res_ro, rExtract_tup, par_eq, evn]; refine hk _ ?_; clear hk k; try show Sat _ _ _ _ _)
   refine Sat.ret ?_
   simp only [blockK, Tryz.results73, evr, id, seval, res_one, par_one, idn_one, idn_0, idn_1, idn_2, List.append_nil, Int.toNat_zero, Nat.sub_self, Int.reduceToNat, resRow, res_ro, rExtract_tup, par_eq]
   have : idsAsc e.ids = false := by
    cases hA : idsAsc e.ids with
    | false => rfl
    | true =>
     unfold idsAsc at hA
     have := of_decide_eq_true hA (i - 1) (by omega)
     rw [show i - 1 + 1 = i by omega, hno] at this
     cases this
   unfold validEv
   rw [this, Bool.and_false]
  have hyes : idnLt (e.ids.getD (i - 1) default) (e.ids.getD i default) = true := by
   unfold idnLt
   simp only [decide_eq_false_iff_not, ge_iff_le] at h3
   rw [decide_eq_true_eq]
   omega
  refine Sat.skip ?_
  simp only [thenK, blockK]
  refine Sat.region_k fun k hk => ?_
  simp -implicitDefEqProofs only [evr, id, seval, res_one, par_one, idn_one, idn_0, idn_1, idn_2, resRow, res_ro, rExtract_tup, par_eq, e1, evn]
  refine hk _ ?_
  simp only [thenK, blockK]
  refine ⟨i + 1, ⟨by omega, by omega, fun q hq2 => ?_⟩, by omega, ?_⟩
  ·by_cases hqi : q + 1 < i
   ·exact hq q hqi
   ·obtain rfl : q = i - 1 := by omega
    rw [show i - 1 + 1 = i by omega]
    exact hyes
  ·simp -implicitDefEqProofs only [evr, id, seval, res_one, par_one, idn_one, idn_0, idn_1, idn_2, resRow, res_ro, rExtract_tup, par_eq, evl, evn]
 ·have hie : i = e.ids.length := by simp only [decide_eq_false_iff_not] at h2; omega
  refine Sat.exit ?_
  simp only [thenK, blockK, reduceIte]
  (repeat refine Sat.seq ?_)
  (refine Sat.region_k fun k hk => ?_; simp -implicitDefEqProofs only [evr, id, seval, res_one, par_one, idn_one, idn_0, idn_1, idn_2, resRow, res_ro, rExtract_tup, par_eq, evn]; refine hk _ ?_; clear hk k; try show Sat _ _ _ _ _)
  refine Sat.ret ?_
  simp only [Tryz.results73, evr, id, seval, res_one, par_one, idn_one, idn_0, idn_1, idn_2, List.append_nil, Int.toNat_zero, Nat.sub_self, Int.reduceToNat, resRow, res_ro, rExtract_tup, par_eq]
  have : idsAsc e.ids = true := by
   unfold idsAsc
   rw [decide_eq_true_eq]
   intro q hq2
   exact hq q (by omega)
  unfold validEv
  rw [hp, this]
  rfl
end Go.Proofs.YtfeiiadligkamaaGreat


/- What pairs hold (no program in sight). -/
namespace Go.Proofs.YtfeiiadligkamaaGreat
open Eng
def OneEach (xs : List Res) : Prop := ∀ r ∈ xs, ∀ s ∈ xs, r.idn = s.idn → r = s
theorem findV_one {xs : List Res} (hu : OneEach xs) {r : Res} (hr : r ∈ xs) (hv : validR r = true) : findV xs r.idn = some r := by
 cases hf : findV xs r.idn with
 | none => exact absurd rfl ((findV_none hf).2 r hr hv)
 | some s =>
  rcases findV_some hf with ⟨h1, _, h3⟩ | h
  ·rw [hu s h1 r hr h3]
  ·cases h
def Evd.cut (e : Evd) (n : Nat) : Evd := ⟨e.kind, e.a, e.b, e.ids.take n, e.ad, e.cap⟩
end Go.Proofs.YtfeiiadligkamaaGreat


/- Plain laws of pairs: they depend on the set of results alone, and each result that shows a pair is named once. -/
namespace Go.Proofs.YtfeiiadligkamaaGreat
open Go.Sort Eng
def Evd.say (e : Evd) : Int × Par × List Idn := (e.kind, e.pr, e.ids)
theorem PairsOf.one {xs : List Res} {es : List Evd} (h : PairsOf xs es) {e f : Evd} (he : e ∈ es) (hf : f ∈ es) (hp : e.pr = f.pr) : e = f := by
 have key : ∀ {l : List Evd}, (l.Pairwise fun x y => parLt x.pr y.pr = true) → ∀ e ∈ l, ∀ f ∈ l, e.pr = f.pr → e = f := by
  intro l
  induction l with
  | nil => intro _ e he; cases he
  | cons x l ih =>
   intro hl e he f hf hp
   obtain ⟨l1, l2⟩ := List.pairwise_cons.1 hl
   rcases List.mem_cons.1 he with g1 | g1 <;> rcases List.mem_cons.1 hf with g2 | g2
   ·rw [g1, g2]
   ·have := l1 f g2; rw [← g1, hp, parLt_irrefl] at this; cases this
   ·have := l1 e g1; rw [← g2, hp, parLt_irrefl] at this; cases this
   ·exact ih l2 e g1 f g2 hp
 exact key h.asc e he f hf hp
end Go.Proofs.YtfeiiadligkamaaGreat


/- The reference's SameEvidence, by the evaluator. -/
namespace Go.Proofs.YtfeiiadligkamaaGreat
open Go.Sort Eng
theorem evCmp_say (e f : Evd) : evCmp e f = 0 ↔ e.say = f.say := by
 rw [evCmp_zero]
 unfold Evd.say Evd.pr
 simp only [Prod.mk.injEq, Par.mk.injEq, and_assoc]
end Go.Proofs.YtfeiiadligkamaaGreat


/- What exclusions and mates hold, and that they depend on the set of results alone (no program in sight). -/
namespace Go.Proofs.YtfeiiadligkamaaGreat
open Eng Go.Sort
/-! ### bits -/
theorem x32_def (a b : Int) : x32 a b = ((BitVec.ofInt 32 a ^^^ BitVec.ofInt 32 b).toNat : Int) := by
 show IntKind.u32.wrap ((BitVec.ofInt 32 a ^^^ BitVec.ofInt 32 b).toNat : Int) = _
 have := (BitVec.ofInt 32 a ^^^ BitVec.ofInt 32 b).isLt
 rw [IntKind.wrap_u32]
 omega
theorem x32_bv (a b : Int) : BitVec.ofInt 32 (x32 a b) = BitVec.ofInt 32 a ^^^ BitVec.ofInt 32 b := by
 rw [x32_def]
 apply BitVec.eq_of_toNat_eq
 rw [BitVec.ofInt_natCast, BitVec.toNat_ofNat, Nat.mod_eq_of_lt (BitVec.isLt _)]
theorem x32_oth {f m p q : Int} (h : m = x32 p q) : x32 (x32 f m) f = m ∧ x32 (x32 m f) f = m := by
 have hm : m = ((BitVec.ofInt 32 m).toNat : Int) := by
  conv => lhs; rw [h, x32_def, ← x32_bv, ← h]
 have e1 : BitVec.ofInt 32 f ^^^ BitVec.ofInt 32 m ^^^ BitVec.ofInt 32 f = BitVec.ofInt 32 m := by
  rw [BitVec.xor_comm (BitVec.ofInt 32 f) (BitVec.ofInt 32 m), BitVec.xor_assoc, BitVec.xor_self, BitVec.xor_zero]
 have e2 : BitVec.ofInt 32 m ^^^ BitVec.ofInt 32 f ^^^ BitVec.ofInt 32 f = BitVec.ofInt 32 m := by
  rw [BitVec.xor_assoc, BitVec.xor_self, BitVec.xor_zero]
 refine ⟨?_, ?_⟩
 ·rw [x32_def, x32_bv, e1, ← hm]
 ·rw [x32_def, x32_bv, e2, ← hm]
/-! ### the same results -/
theorem OrdOf.congr {xs ys zs : List Res} (h : ∀ r, r ∈ ys ↔ r ∈ xs) : OrdOf ys zs ↔ OrdOf xs zs :=
 ⟨fun g => ⟨g.1, fun r => (g.2 r).trans (and_congr (h r) Iff.rfl)⟩, fun g => ⟨g.1, fun r => (g.2 r).trans (and_congr (h r).symm Iff.rfl)⟩⟩
theorem isPart_congr {xs ys : List Res} (h : ∀ r, r ∈ ys ↔ r ∈ xs) (p : List Res) : IsPart ys p ↔ IsPart xs p := by
 unfold IsPart IsPartT
 simp only [OrdOf.congr h]
theorem matC_congr {xs ys : List Res} (h : ∀ r, r ∈ ys ↔ r ∈ xs) (e : Evd) : MatC xs e ↔ MatC ys e := by
 unfold MatC
 simp only [isPart_congr h, h]
theorem MatOf.same {xs ys : List Res} {l m : List Evd} (h : MatOf xs l) (k : MatOf ys m) (hm : ∀ r, r ∈ ys ↔ r ∈ xs) : l.map Evd.say = m.map Evd.say := by
 obtain ⟨h1, h2⟩ := BestOf.unique h.best k.best (matC_congr hm)
 refine List.ext_getElem (by simpa using h1) fun i g1 g2 => ?_
 rw [List.length_map] at g1 g2
 rw [List.getElem_map, List.getElem_map]
 obtain ⟨_, e2, e3⟩ := h2 i g1 g2
 refine (evCmp_say _ _).1 ?_
 unfold evB at e2 e3
 rw [decide_eq_false_iff_not] at e2 e3
 have := evCmp_neg l[i] m[i]
 omega
/-! ### what holds -/
theorem wayR_iff {r : Res} : wayR r = true ↔ r.answered = true ∧ r.kind = 1 ∧ usableR r = true := by
 unfold wayR
 simp only [Bool.and_eq_true, beq_iff_eq]
theorem wayR_valid {r : Res} (h : wayR r = true) : validR r = true := by
 have := (wayR_iff.1 h).2.2
 unfold usableR at this
 rw [Bool.and_eq_true] at this
 exact this.2
theorem wayR_from {r : Res} (h : wayR r = true) : r.from_ ≠ 0 := by
 have h1 := wayR_valid h
 unfold validR at h1
 simp only [Bool.and_eq_true, Bool.or_eq_true, Bool.not_eq_true', bne_iff_ne, ne_eq] at h1
 rcases h1.2.2 with h2 | h2
 ·rw [(wayR_iff.1 h).1] at h2; cases h2
 ·exact h2
def exHoldsV (xs : List Res) (x : Exc) : Bool := match findV xs x.f, findV xs x.s with
 | some a, some b => decide (x.a ≠ 0) && (decide (x.a < x.b) && (togR a b && ((a.from_ == x.a) && (b.from_ == x.b))))
 | _, _ => false
theorem IsPart.tre {xs p : List Res} (h : IsPart xs p) {a b : Res} (ha : a ∈ p) (hb : b ∈ p) : a.tre = b.tre := by
 obtain ⟨t, ht⟩ := h
 rw [ht.tre a ha, ht.tre b hb]
theorem exc_holds {xs : List Res} (hu : OneEach xs) {x : Exc} (h : ExcC xs x) : exHoldsV xs x = true := by
 obtain ⟨p, hp, a, ha, b, hb, wa, wb, hf, ⟨h1, h2⟩, rfl⟩ := h
 have ht := hp.tre ha hb
 have fa : findV xs a.idn = some a := findV_one hu (hp.sub a ha).1 (wayR_valid wa)
 have fb : findV xs b.idn = some b := findV_one hu (hp.sub b hb).1 (wayR_valid wb)
 have tg : togR a b = true := togR_iff.2 ⟨h1, hf, ht, wa, wb⟩
 unfold exHoldsV
 simp only [mkExc, fa, fb, tg, Bool.true_and, beq_self_eq_true, Bool.and_true, Bool.and_eq_true, decide_eq_true_eq]
 exact ⟨decide_eq_true (wayR_from wa), decide_eq_true h2⟩
def othV (e : Evd) (a : Res) : Int := x32 (x32 e.a e.b) a.from_
def hmOwn (xs : List Res) (ids : List Idn) : List Res := (ids.filterMap (findV xs)).filter wayR
def hmP (xs : List Res) (e : Evd) (a b : Res) : Bool := folR a b && (((hmOwn xs e.ids).any fun c => c.from_ == othV e a) && (msV b.from_).any fun m => m == othV e a)
def hmV (xs : List Res) (e : Evd) : Bool := (validEv e && decide (e.kind = 2)) && ((e.ids.all fun d => (findV xs d).isSome) && (hmOwn xs e.ids).any fun a => ((a.from_ == e.a) || (a.from_ == e.b)) && (hmOwn xs e.ids).any fun b => hmP xs e a b)
theorem msV_x32 {a m : Int} (h : m ∈ msV a) : ∃ q, m = x32 a q := by
 unfold msV at h
 rcases List.mem_cons.1 h with h | h
 ·exact ⟨1, h⟩
 ·split at h
  ·cases h
  ·rw [List.mem_singleton] at h; exact ⟨3, h⟩
theorem MatE.pre {a b c : Idn} {fr mt : Int} {e : Evd} (h : MatE a b c fr mt e) (h1 : fr ≠ 0) (h2 : mt ≠ 0) (h3 : fr ≠ mt) : validEv e = true := by
 obtain ⟨e1, e2, e3, e4⟩ := h
 unfold validEv evPre
 rw [Bool.and_eq_true]
 refine ⟨decide_eq_true ⟨by omega, by omega, by omega, fun h9 => ?_⟩, idsAsc_iff.2 e4.1⟩
 have := (e4.2 a).2 (by simp)
 rw [List.length_eq_zero_iff.1 h9] at this
 cases this
theorem mat_valid {xs : List Res} {e : Evd} (h : MatC xs e) : validEv e = true := by
 obtain ⟨p, hp, a, ha, b, hb, h1, c, hc, wc, hm, hn, he⟩ := h
 exact he.pre (wayR_from (togR_iff.1 (folR_iff.1 h1).1).2.2.2.1) (wayR_from wc) (Ne.symm hn)
theorem mat_holds {xs : List Res} (hu : OneEach xs) {e : Evd} (h : MatC xs e) : hmV xs e = true := by
 have hv := mat_valid h
 obtain ⟨p, hp, a, ha, b, hb, h1, c, hc, wc, hm, hn, he⟩ := h
 obtain ⟨_, _, _, wa, wb⟩ := togR_iff.1 (folR_iff.1 h1).1
 obtain ⟨e1, e2, e3, e4⟩ := he
 have fa : findV xs a.idn = some a := findV_one hu (hp.sub a ha).1 (wayR_valid wa)
 have fb : findV xs b.idn = some b := findV_one hu (hp.sub b hb).1 (wayR_valid wb)
 have fc : findV xs c.idn = some c := findV_one hu hc (wayR_valid wc)
 have ow : ∀ {r : Res}, wayR r = true → findV xs r.idn = some r → r.idn ∈ e.ids → r ∈ hmOwn xs e.ids := fun w f h => List.mem_filter.2 ⟨List.mem_filterMap.2 ⟨_, h, f⟩, w⟩
 have oa := ow wa fa ((e4.2 _).2 (by simp))
 have ob := ow wb fb ((e4.2 _).2 (by simp))
 have oc := ow wc fc ((e4.2 _).2 (by simp))
 have hoth : othV e a = c.from_ := by
  obtain ⟨q, hq⟩ := msV_x32 hm
  have hx := x32_oth (f := a.from_) hq
  unfold othV
  rw [e2, e3]
  rcases Int.le_total a.from_ c.from_ with h5 | h5
  ·rw [Int.min_eq_left h5, Int.max_eq_right h5]; exact hx.1
  ·rw [Int.min_eq_right h5, Int.max_eq_left h5]; exact hx.2
 unfold hmV
 rw [hv, decide_eq_true e1]
 simp only [Bool.true_and, Bool.and_eq_true]
 refine ⟨List.all_eq_true.2 fun d hd => ?_, List.any_eq_true.2 ⟨a, oa, ?_⟩⟩
 ·have := (e4.2 d).1 hd
  simp only [List.mem_cons, List.not_mem_nil, or_false] at this
  rcases this with rfl | rfl | rfl
  ·rw [fa]; rfl
  ·rw [fb]; rfl
  ·rw [fc]; rfl
 ·rw [Bool.and_eq_true]
  refine ⟨?_, List.any_eq_true.2 ⟨b, ob, ?_⟩⟩
  ·rw [Bool.or_eq_true, beq_iff_eq, beq_iff_eq, e2, e3]
   rcases Int.le_total a.from_ c.from_ with h5 | h5
   ·left; rw [Int.min_eq_left h5]
   ·right; rw [Int.max_eq_left h5]
  ·unfold hmP
   rw [hoth, h1, Bool.true_and, Bool.and_eq_true]
   exact ⟨List.any_eq_true.2 ⟨c, oc, by simp⟩, List.any_eq_true.2 ⟨_, hm, by simp⟩⟩
end Go.Proofs.YtfeiiadligkamaaGreat


/- Results without contradictions: each trace is one part (no program in sight). -/
namespace Go.Proofs.YtfeiiadligkamaaGreat
open Eng Go.Sort
theorem asc_ins {r : Res} : ∀ {l : List Res}, Asc l → ∃ m, Asc m ∧ ∀ s, s ∈ m ↔ s = r ∨ s ∈ l
 | [], _ => ⟨[r], List.pairwise_singleton _ _, fun s => by simp⟩
 | x :: l, h => by
  obtain ⟨h1, h2⟩ := List.pairwise_cons.1 h
  rcases pthLt_total r x with h3 | h3 | h3
  ·refine ⟨r :: x :: l, List.pairwise_cons.2 ⟨fun y hy => ?_, h⟩, fun s => by simp⟩
   rcases List.mem_cons.1 hy with rfl | hy
   ·exact h3
   ·exact pthLt_trans _ _ _ h3 (h1 y hy)
  ·subst h3
   exact ⟨r :: l, h, fun s => ⟨.inr, fun h => h.elim (fun e => by rw [e]; exact List.mem_cons_self) id⟩⟩
  ·obtain ⟨m, hm, hs⟩ := asc_ins (r := r) h2
   refine ⟨x :: m, List.pairwise_cons.2 ⟨fun y hy => ?_, hm⟩, fun s => ?_⟩
   ·rcases (hs y).1 hy with rfl | hy
    ·exact h3
    ·exact h1 y hy
   ·rw [List.mem_cons, List.mem_cons, hs]
    constructor
    ·rintro (h | h | h)
     ·exact .inr (.inl h)
     ·exact .inl h
     ·exact .inr (.inr h)
    ·rintro (h | h | h)
     ·exact .inr (.inl h)
     ·exact .inl h
     ·exact .inr (.inr h)
theorem ordOf_ex : ∀ xs : List Res, ∃ ys, OrdOf xs ys
 | [] => ⟨[], .nil, fun r => by simp⟩
 | x :: xs => by
  obtain ⟨ys, h1, h2⟩ := ordOf_ex xs
  by_cases hv : validR x = true
  ·obtain ⟨m, hm, hs⟩ := asc_ins (r := x) h1
   refine ⟨m, hm, fun r => ?_⟩
   rw [hs, h2, List.mem_cons]
   constructor
   ·rintro (h | h)
    ·exact ⟨.inl h, by rw [h]; exact hv⟩
    ·exact ⟨.inr h.1, h.2⟩
   ·rintro ⟨h | h, h3⟩
    ·exact .inl h
    ·exact .inr ⟨h, h3⟩
  ·refine ⟨ys, h1, fun r => ?_⟩
   rw [h2, List.mem_cons]
   constructor
   ·rintro h; exact ⟨.inr h.1, h.2⟩
   ·rintro ⟨h | h, h3⟩
    ·rw [h] at h3; exact absurd h3 hv
    ·exact ⟨h, h3⟩
def Calm (xs : List Res) : Prop := ∀ a ∈ xs, ∀ b ∈ xs, contraR a b = false
theorem cuts_whole {zs : List Res} (hn : 0 < zs.length) (h : Calm zs) : cutsOf zs [(0, zs.length)] := by
 refine .inr ⟨[], 0, .nil, hn, fun k h1 h2 ⟨i, h3, h4, h5⟩ => ?_, rfl⟩
 have m : ∀ {q : Nat}, q < zs.length → zs.toArray[q]! ∈ zs := fun {q} hq => by
  rw [show zs.toArray[q]! = zs[q] by simp [getElem!_def, hq]]
  exact List.getElem_mem hq
 rw [h _ (m (by omega)) _ (m h2)] at h5
 cases h5
theorem part_all {xs : List Res} (hx : Calm xs) {r : Res} (hr : r ∈ xs) (hv : validR r = true) : ∃ p, IsPart xs p ∧ ∀ s ∈ xs, validR s = true → s.tre = r.tre → s ∈ p := by
 obtain ⟨ys, hys⟩ := ordOf_ex xs
 have hmem : ∀ s, s ∈ ofT ys r.tre ↔ (s ∈ xs ∧ validR s = true) ∧ s.tre = r.tre := fun s => by
  unfold ofT
  rw [List.mem_filter, hys.2]
  unfold isTre
  rw [decide_eq_true_eq]
 have hc : Calm (ofT ys r.tre) := fun a ha b hb => hx a ((hmem a).1 ha).1.1 b ((hmem b).1 hb).1.1
 have hpos : 0 < (ofT ys r.tre).length := List.length_pos_of_mem ((hmem r).2 ⟨⟨hr, hv⟩, rfl⟩)
 refine ⟨ofT ys r.tre, ⟨r.tre, ys, _, (0, (ofT ys r.tre).length), hys, cuts_whole hpos hc, List.mem_singleton.2 rfl, ?_⟩, fun s h1 h2 h3 => (hmem s).2 ⟨⟨h1, h2⟩, h3⟩⟩
 unfold cutL
 simp
theorem exc_calm {xs : List Res} (hx : Calm xs) {a b : Res} (ha : a ∈ xs) (hb : b ∈ xs) (ht : togR a b = true) (hlt : a.from_ < b.from_) : ExcC xs (mkExc a b) := by
 obtain ⟨h1, h2, h3, wa, wb⟩ := togR_iff.1 ht
 obtain ⟨p, hp, hm⟩ := part_all hx ha (wayR_valid wa)
 exact ⟨p, hp, a, hm a ha (wayR_valid wa) rfl, b, hm b hb (wayR_valid wb) h3.symm, wa, wb, h2, ⟨h1, hlt⟩, rfl⟩
end Go.Proofs.YtfeiiadligkamaaGreat


/- The sanity check's results: what they prove (no program in sight). -/
namespace Go.Proofs.YtfeiiadligkamaaGreat
open Eng Go.Sort
def rplR (n flow ttl fr : Int) : Res := ⟨0, 0, n, 10 * n, 9, 17, flow, ttl, true, false, 10 * n + 1, fr, 1, 0, 0, 0, 0⟩
def awL : List Res := [rplR 0 0 1 167772161, rplR 1 0 2 167772418, rplR 2 1 1 167772417]
theorem awL_valid : awL.any (fun x => !validR x) = false := by decide +kernel
theorem awL_calm : Calm awL := by unfold Calm; decide +kernel
theorem awL_one : OneEach awL := by unfold OneEach; decide +kernel
theorem awL_rg : ∀ r ∈ awL, RgR r := by unfold RgR; decide +kernel
theorem awL_exc : ∀ a ∈ awL, ∀ b ∈ awL, a.flow = b.flow → a.ttl ≠ b.ttl → a.from_ < b.from_ → mkExc a b = mkExc (rplR 0 0 1 167772161) (rplR 1 0 2 167772418) := by decide +kernel
theorem awL_fol : ∀ a ∈ awL, ∀ b ∈ awL, folR a b = true → a = rplR 0 0 1 167772161 ∧ b = rplR 1 0 2 167772418 := by decide +kernel
theorem awL_c : ∀ c ∈ awL, c.from_ ∈ msV 167772418 → c.from_ ≠ 167772161 → c = rplR 2 1 1 167772417 := by decide +kernel
theorem awL_f01 : folR (rplR 0 0 1 167772161) (rplR 1 0 2 167772418) = true := by decide +kernel
theorem awL_m : (167772417 : Int) ∈ msV 167772418 ∧ (167772417 : Int) ≠ 167772161 ∧ wayR (rplR 2 1 1 167772417) = true := by decide +kernel
theorem awL_pairs {es : List Exc} (h : ExcOf awL es) : es = [mkExc (rplR 0 0 1 167772161) (rplR 1 0 2 167772418)] := by
 have hC : ∀ x, ExcC awL x → x = mkExc (rplR 0 0 1 167772161) (rplR 1 0 2 167772418) := fun x ⟨p, hp, a, ha, b, hb, _, _, hf, ⟨h1, h2⟩, e⟩ => e.trans (awL_exc a (hp.sub a ha).1 b (hp.sub b hb).1 hf h1 h2)
 obtain ⟨x, hx, _⟩ := h.all _ (exc_calm awL_calm (a := rplR 0 0 1 167772161) (b := rplR 1 0 2 167772418) (by simp [awL]) (by simp [awL]) (folR_iff.1 awL_f01).1 (by decide))
 match es, h, hx with
 | [y], h, hx => rw [hC y (h.each y (by simp)).1]
 | y :: z :: l, h, hx =>
  have h1 := (List.pairwise_cons.1 h.asc).1 z (by simp)
  rw [hC y (h.each y (by simp)).1, hC z (h.each z (by simp)).1, parLt_irrefl] at h1
  cases h1
theorem awL_mat {e : Evd} (h : MatC awL e) : MatE ⟨0, 0, 0⟩ ⟨0, 0, 1⟩ ⟨0, 0, 2⟩ 167772161 167772417 e := by
 obtain ⟨p, hp, a, ha, b, hb, h1, c, hc, wc, hm, hn, he⟩ := h
 obtain ⟨rfl, rfl⟩ := awL_fol a (hp.sub a ha).1 b (hp.sub b hb).1 h1
 obtain rfl := awL_c c hc hm hn
 exact he
theorem awL_ids : IdsOf [⟨0, 0, 0⟩, ⟨0, 0, 1⟩, ⟨0, 0, 2⟩] [⟨0, 0, 0⟩, ⟨0, 0, 1⟩, ⟨0, 0, 2⟩] := ⟨by decide +kernel, fun d => Iff.rfl⟩
theorem awL_mates {es : List Evd} (h : MatOf awL es) : es.length = 1 ∧ MatC awL (es.getD 0 default) ∧ (es.getD 0 default).a = 167772161 ∧ (es.getD 0 default).b = 167772417 ∧ (es.getD 0 default).ids.length = 3 := by
 obtain ⟨p, hp, hm⟩ := part_all awL_calm (r := rplR 0 0 1 167772161) (by simp [awL]) (by decide +kernel)
 have hE : MatE ⟨0, 0, 0⟩ ⟨0, 0, 1⟩ ⟨0, 0, 2⟩ 167772161 167772417 ⟨2, 167772161, 167772417, [⟨0, 0, 0⟩, ⟨0, 0, 1⟩, ⟨0, 0, 2⟩], none, 0⟩ := ⟨rfl, rfl, rfl, awL_ids⟩
 have hC : MatC awL ⟨2, 167772161, 167772417, [⟨0, 0, 0⟩, ⟨0, 0, 1⟩, ⟨0, 0, 2⟩], none, 0⟩ :=
  ⟨p, hp, rplR 0 0 1 167772161, hm _ (by simp [awL]) (by decide +kernel) rfl, rplR 1 0 2 167772418, hm _ (by simp [awL]) (by decide +kernel) rfl, awL_f01, rplR 2 1 1 167772417, by simp [awL], awL_m.2.2, awL_m.1, awL_m.2.1, hE⟩
 obtain ⟨x, hx, _⟩ := h.best.all _ hC
 have key : ∀ e ∈ es, MatC awL e ∧ e.a = 167772161 ∧ e.b = 167772417 ∧ e.ids.length = 3 := fun e he => by
  have h1 := (h.best.each e he).1
  obtain ⟨e1, e2, e3, e4⟩ := awL_mat h1
  refine ⟨h1, e2, e3, ?_⟩
  rw [e4.unique awL_ids]; rfl
 match es, key, h, hx with
 | [y], key, h, hx => exact ⟨rfl, key y (by simp)⟩
 | y :: z :: l, key, h, hx =>
  have h1 := (List.pairwise_cons.1 h.best.asc).1 z (by simp)
  obtain ⟨_, a1, b1, _⟩ := key y (by simp)
  obtain ⟨_, a2, b2, _⟩ := key z (by simp)
  have e : Evd.pr y = Evd.pr z := by unfold Evd.pr; rw [a1, a2, b1, b2]
  rw [e, parLt_irrefl] at h1
  cases h1
end Go.Proofs.YtfeiiadligkamaaGreat


/- Paths without contradictions: each two addresses of a flow are excluded, and no others (no program in sight). -/
namespace Go.Proofs.YtfeiiadligkamaaGreat
open Eng Go.Sort
def cndP (a b : Res) : Bool := togR a b && decide (a.from_ < b.from_)
def cntB (a : Res) (l : List Res) : Nat := (l.filter (cndP a)).length
def cntA (l xs : List Res) : Nat := (l.map fun a => cntB a xs).sum
theorem cntB_take {a : Res} {xs : List Res} {i : Nat} (h : i < xs.length) : cntB a (xs.take (i + 1)) = cntB a (xs.take i) + if cndP a (xs.getD i default) = true then 1 else 0 := by
 unfold cntB
 rw [List.take_add_one, List.getElem?_eq_getElem h, List.getD_eq_getElem?_getD, List.getElem?_eq_getElem h]
 simp only [Option.toList_some, Option.getD_some, List.filter_append, List.length_append, List.filter_cons, List.filter_nil]
 split <;> rfl
theorem cntB_le (a : Res) (l : List Res) : cntB a l ≤ l.length := List.length_filter_le _ _
theorem cntA_take {l xs : List Res} {i : Nat} (h : i < l.length) : cntA (l.take (i + 1)) xs = cntA (l.take i) xs + cntB (l.getD i default) xs := by
 unfold cntA
 rw [List.take_add_one, List.getElem?_eq_getElem h, List.getD_eq_getElem?_getD, List.getElem?_eq_getElem h, List.map_append, List.sum_append]
 simp only [Option.toList_some, Option.getD_some, List.map_cons, List.map_nil, List.sum_cons, List.sum_nil, Nat.add_zero]
theorem cntA_le (l xs : List Res) : cntA l xs ≤ l.length * xs.length := by
 induction l with
 | nil => simp [cntA]
 | cons a l ih =>
  have := cntB_le a xs
  have e : cntA (a :: l) xs = cntB a xs + cntA l xs := rfl
  rw [e, List.length_cons, Nat.succ_mul]
  omega
theorem cnd_found {xs : List Res} {es : List Exc} (hx : Calm xs) (h : ExcOf xs es) {a b : Res} (ha : a ∈ xs) (hb : b ∈ xs) (hc : cndP a b = true) : ∃ y ∈ es, y.a = a.from_ ∧ y.b = b.from_ := by
 unfold cndP at hc
 rw [Bool.and_eq_true, decide_eq_true_eq] at hc
 obtain ⟨y, hy, e⟩ := h.all _ (exc_calm hx ha hb hc.1 hc.2)
 exact ⟨y, hy, congrArg Par.a e, congrArg Par.b e⟩
theorem cnt_pairs {xs : List Res} {es : List Exc} (h : ExcOf xs es) : es.length ≤ cntA xs xs := by
 have hn : (es.map Exc.pr).Nodup := List.pairwise_map.2 (h.asc.imp fun {x y} g e => by rw [e, parLt_irrefl] at g; cases g)
 have h1 := hn.length_le_of_subset (l₂ := xs.flatMap fun a => (xs.filter (cndP a)).map fun b => (⟨a.from_, b.from_⟩ : Par)) fun p hp => by
  obtain ⟨e, he, rfl⟩ := List.mem_map.1 hp
  obtain ⟨q, hq, a, ha, b, hb, wa, wb, hf, ⟨h1, h2⟩, rfl⟩ := (h.each e he).1
  refine List.mem_flatMap.2 ⟨a, (hq.sub a ha).1, List.mem_map.2 ⟨b, List.mem_filter.2 ⟨(hq.sub b hb).1, ?_⟩, rfl⟩⟩
  unfold cndP
  rw [Bool.and_eq_true, decide_eq_true_eq]
  exact ⟨togR_iff.2 ⟨h1, hf, hq.tre ha hb, wa, wb⟩, h2⟩
 have h2 : ∀ l : List Res, (l.flatMap fun a => (xs.filter (cndP a)).map fun b => (⟨a.from_, b.from_⟩ : Par)).length = cntA l xs := by
  intro l
  induction l with
  | nil => rfl
  | cons a l ih => rw [List.flatMap_cons, List.length_append, ih, List.length_map]; rfl
 rw [List.length_map, h2] at h1
 exact h1
theorem cnd_iff {a b : Res} (ha : validR a = true) (hb : validR b = true) : cndP a b = true ↔ a.answered = true ∧ b.answered = true ∧ a.doubled = false ∧ b.doubled = false ∧ a.kind = 1 ∧ b.kind = 1 ∧ a.tre = b.tre ∧ a.flow = b.flow ∧ a.ttl ≠ b.ttl ∧ a.from_ < b.from_ := by
 unfold cndP
 rw [Bool.and_eq_true, decide_eq_true_eq, togR_iff, wayR_iff, wayR_iff]
 unfold usableR
 rw [ha, hb]
 simp only [Bool.and_true, Bool.not_eq_true']
 constructor
 ·rintro ⟨⟨h1, h2, h3, ⟨h4, h5, h6⟩, h7, h8, h9⟩, h10⟩
  exact ⟨h4, h7, h6, h9, h5, h8, h3, h2, h1, h10⟩
 ·rintro ⟨h4, h7, h6, h9, h5, h8, h3, h2, h1, h10⟩
  exact ⟨⟨h1, h2, h3, ⟨h4, h5, h6⟩, h7, h8, h9⟩, h10⟩
end Go.Proofs.YtfeiiadligkamaaGreat


/- slices.SortFunc, by the shelf: sorts. -/
namespace Go.Proofs.YtfeiiadligkamaaGreat
open Go.Sort Eng
theorem evs_one1 (x : Evs) : ∀ s ∈ Evs.cs x, s.den.oneCell' = true := fun s hs => one_den (List.all_eq_true.1 (show (Evs.cs x).all oneS = true from rfl) s hs)
theorem evs_def (R : Nat → Prop) (w : World) : ∀ s ∈ Evs.cs default, s.ok R w := by
 intro s hs
 simp only [Evs.cs, Evd.cs, List.mem_cons, List.not_mem_nil, or_false] at hs
 rcases hs with rfl | rfl | rfl | rfl <;> first | trivial | exact ⟨Nat.le_refl _, Nat.zero_le _, .inl rfl⟩
theorem evsSortC (F : Frm) {g : FuncId} {rdc : Nat → SV} {lt : Evs → Evs → Bool} (hw : SWO lt) (hc : evsCmp g lt) (ad : Option Addr) (cap N : Nat) (hN : N ≤ 1000000000000) (d : Array Evs) (hd : d.size = N) :
  ContractM F Tryz.prog 60 [.os 0 ad N cap, .fn g 0 rdc] (evsRow ad N cap d)
   (fun r o1 => r = tupL [] ∧ ∃ d', d'.size = N ∧ (PermIn 0 N d d' ∧ SortedIn lt 0 N d') ∧ o1 = evsRow ad N cap d') :=
 sortK Tryz.sortEvidence 4 (by decide) Tryz.isAgg32 Tryz.sizeOf32 Evs.cs (fun _ => rfl) evs_one1 evs_def F 32 (enters_of Tryz.func60 (by kernel_rfl) rfl) hw hc ad cap N hN d hd
end Go.Proofs.YtfeiiadligkamaaGreat


/- Evidence of the link rule, by the evaluator: exclusion.improve. -/
namespace Go.Proofs.YtfeiiadligkamaaGreat
open Go.Sort Eng
def evKey (X : List Evd) (i : Nat) : List Int := (X.getD i default).pr.keys
def evVal (X : List Evd) (i : Nat) : SV := evAg (X.getD i default)
set_option maxHeartbeats 2000000 in
set_option maxRecDepth 100000 in
theorem improveC (F : Frm) (mb : Nat) (X0 : List Evd) (a b : Idn) (fr mt : Int) (oa : Option Addr) (oc : Nat) (ids : List Idn) (hl : ids.length ≤ 1000000000) (hs : ids.Pairwise fun x y => idnLt y x = false)
    (hX0 : ∀ e ∈ X0, e.ids.length ≤ 3) (C : Evd → Prop) (hB0 : BestI Evd.pr evB C X0) :
    ContractM F Tryz.prog 59 [.mp 0 mb, idnAg a, idnAg b, .i .u32 fr, .i .u32 mt, .sl oa ids.length oc 3 (idnRd ids.toArray)] (.mq mb false [.u32, .u32] X0.length (evKey X0) (evVal X0))
      (fun r o1 => r = tupL [] ∧ ∃ X, BestI Evd.pr evB (fun e => C e ∨ ∃ c ∈ ids, MatE a b c fr mt e) X ∧ (∀ e ∈ X, e.ids.length ≤ 3) ∧ o1 = .mq mb false [.u32, .u32] X.length (evKey X) (evVal X)) := by
  refine contractM_of Tryz.func59 rfl (by kernel_rfl) (by rintro r o1 ⟨_, X, _, _, rfl⟩; rfl) ?_
  simp only [Tryz.ntmps59, argEnv, idnAg, Idn.cs]
  (repeat refine Sat.seq ?_)
  (refine Sat.region_k fun k hk => ?_; simp -implicitDefEqProofs only [evr, id, seval, idn_one, idn_0, idn_1, idn_2, par_one, rExtract_tup, evn])
  intro b7 b8
  (refine hk _ ?_; clear hk k; try show Sat _ _ _ _ _)
  refine Sat.settleLast [.mq mb false [.u32, .u32] X0.length (evKey X0) (evVal X0), .box b7 27 [.i .i64 a.van, .i .i64 a.run, .i .i64 a.num]] 8 rfl ?_
  refine Sat.settleLast [.mq mb false [.u32, .u32] X0.length (evKey X0) (evVal X0)] 7 rfl ?_
  simp only [List.length_cons, List.length_nil, Nat.reduceAdd]
  (repeat refine Sat.seq ?_)
  (refine Sat.region_k fun k hk => ?_; simp -implicitDefEqProofs only [evr, id, seval, idn_one, idn_0, idn_1, idn_2, par_one, rExtract_tup, evn])
  intro b12
  (refine hk _ ?_; clear hk k; try show Sat _ _ _ _ _)
  refine Sat.settleLast [.mq mb false [.u32, .u32] X0.length (evKey X0) (evVal X0)] 12 rfl ?_
  simp only [List.length_cons, List.length_nil, Nat.reduceAdd]
  have hT : mqT Tryz.prog 102 = some (false, [.u32, .u32], 32) := by kernel_rfl
  (repeat refine Sat.seq ?_)
  (refine Sat.region_k fun k hk => ?_; simp -implicitDefEqProofs only [evr, id, seval, idn_one, idn_0, idn_1, idn_2, par_one, rExtract_tup, evn]; refine hk _ ?_; clear hk k; try show Sat _ _ _ _ _)
  refine Sat.block ?_
  refine Sat.loop (ι := Nat × List Evd) (fun z => ⟨73, [(28, .i .i64 z.1), (27, .i .i64 ids.length), (26, .sl oa ids.length oc 3 (idnRd ids.toArray)), (12, .el ⟨b12, 0, none⟩ 2 fun j => [SV.i .u32 (min fr mt), .i .u32 (max fr mt)].getD j default), (7, .el ⟨b7, 0, none⟩ 3 fun j => [SV.i .i64 a.van, .i .i64 a.run, .i .i64 a.num].getD j default), (8, .el ⟨b8, 0, none⟩ 3 fun j => [SV.i .i64 b.van, .i .i64 b.run, .i .i64 b.num].getD j default), (0, .mp 0 mb)], [.mq mb false [.u32, .u32] z.2.length (evKey z.2) (evVal z.2)]⟩)
    (fun z => z.1 ≤ ids.length ∧ BestI Evd.pr evB (fun e => C e ∨ ∃ c ∈ ids.take z.1, MatE a b c fr mt e) z.2 ∧ ∀ e ∈ z.2, e.ids.length ≤ 3) (fun z => ids.length - z.1) (0, X0)
    ⟨Nat.zero_le _, hB0.congr fun e => ⟨.inl, fun h => h.elim id fun ⟨c, hc, _⟩ => (by cases hc)⟩, hX0⟩ (by simp -implicitDefEqProofs only [evr, id, seval, idn_one, idn_0, idn_1, idn_2, par_one, rExtract_tup, evl, evn]; try exact fun i hi => ⟨rfl, rfl⟩) ?_
  rintro ⟨i, X⟩ ⟨hi, hB, hX⟩
  simp only at hi hB hX ⊢
  (repeat refine Sat.seq ?_)
  (refine Sat.region_k fun k hk => ?_; simp -implicitDefEqProofs only [evr, id, seval, idn_one, idn_0, idn_1, idn_2, par_one, rExtract_tup, evn]; refine hk _ ?_; clear hk k; try show Sat _ _ _ _ _)
  (repeat refine Sat.seq ?_)
  refine Sat.cond_b rfl (fun h => ?_) (fun h => ?_)
  · have h1 : i < ids.length := by simp only [decide_eq_true_eq] at h; omega
    have e1 : IntKind.i64.wrap ((i : Int) + 1) = ((i + 1 : Nat) : Int) := by rw [w64 (by omega)]; omega
    obtain ⟨c, hc⟩ : ∃ c, c = ids.toArray[i]! := ⟨_, rfl⟩
    have hci : ids[i] = c := by rw [hc, idnGet h1]
    have htk : ids.take (i + 1) = ids.take i ++ [c] := by rw [List.take_succ_eq_append_getElem h1, hci]
    refine Sat.skip ?_
    simp only [thenK]
    (repeat refine Sat.seq ?_)
    refine Sat.block ?_
    (repeat refine Sat.seq ?_)
    (refine Sat.region_k fun k hk => ?_; simp -implicitDefEqProofs only [evr, id, seval, idn_one, idn_0, idn_1, idn_2, par_one, rExtract_tup, evn])
    refine ⟨by omega, fun b14 => ?_⟩
    rw [← hc]
    (refine hk _ ?_; clear hk k; try show Sat _ _ _ _ _)
    refine Sat.settleLast [.mq mb false [.u32, .u32] X.length (evKey X) (evVal X)] 14 rfl ?_
    simp only [List.length_cons, List.length_nil, Nat.reduceAdd]
    (repeat refine Sat.seq ?_)
    (refine Sat.region_k fun k hk => ?_; simp -implicitDefEqProofs only [evr, id, seval, idn_one, idn_0, idn_1, idn_2, par_one, rExtract_tup, evn])
    intro b15
    (refine hk _ ?_; clear hk k; try show Sat _ _ _ _ _)
    refine Sat.leOwn (own' := [.mq mb false [.u32, .u32] X.length (evKey X) (evVal X), idnRow (some ⟨b15, 0, none⟩) 3 3 #[a, b, c]]) ⟨own_refl _, ⟨rfl, rfl, rfl, rfl, rfl, fun q r hq hr => by
      rcases (show q = 0 ∨ q = 1 ∨ q = 2 by omega) with rfl | rfl | rfl <;> rcases (show r = 0 ∨ r = 1 ∨ r = 2 by omega) with rfl | rfl | rfl <;> rfl⟩, trivial⟩ ?_
    simp only [idnRow]
    (repeat refine Sat.seq ?_)
    (refine Sat.region_k fun k hk => ?_; simp -implicitDefEqProofs only [evr, id, seval, idn_one, idn_0, idn_1, idn_2, par_one, rExtract_tup, evn])
    refine wcall_mut 1 (idnSortC F idnLt_swo idnCmp1 (some ⟨b15, 0, none⟩) 3 3 (by decide) #[a, b, c] rfl) rfl rfl ?_
    rintro r o1 ⟨rfl, d', hd', ⟨hperm, hsort⟩, rfl⟩
    simp only [idnRow, evr, id, seval, idn_one, idn_0, idn_1, idn_2, par_one, List.append_nil, Int.toNat_zero, Nat.sub_self, Int.reduceToNat, rExtract_tup]
    (refine hk _ ?_; clear hk k; try show Sat _ _ _ _ _)
    obtain ⟨hp3, hs3⟩ := idn_sorted (L := [a, b, c]) hd' hperm hsort
    obtain ⟨e, he⟩ : ∃ e : Evd, e = ⟨2, min fr mt, max fr mt, compactN d'.toList, some ⟨b15, 0, none⟩, 3⟩ := ⟨_, rfl⟩
    have hel : e.ids.length ≤ 3 := by
      have := compactN_le d'.toList
      simp only [Array.length_toList] at this
      rw [he]; show (compactN d'.toList).length ≤ 3
      omega
    have hE : MatE a b c fr mt e := by
      rw [he]
      exact ⟨rfl, rfl, rfl, compactN_asc _ hs3, fun d => (compactN_mem _ d).trans hp3.mem_iff⟩
    have hecs : Evd.cs e = [.i .i64 2, .i .u32 (min fr mt), .i .u32 (max fr mt), .sl (some ⟨b15, 0, none⟩) (compactN d'.toList).length 3 3 (idnRd (compactN d'.toList).toArray)] := by rw [he]; rfl
    (repeat refine Sat.seq ?_)
    refine Sat.atF (ι := Nat) (fun b16 => ⟨73, [(16, .op 2 b16 0), (14, .el ⟨b14, 0, none⟩ 3 fun j => [SV.i .i64 c.van, .i .i64 c.run, .i .i64 c.num].getD j default), (28, .i .i64 i), (27, .i .i64 ids.length), (26, .sl oa ids.length oc 3 (idnRd ids.toArray)), (12, .el ⟨b12, 0, none⟩ 2 fun j => [SV.i .u32 (min fr mt), .i .u32 (max fr mt)].getD j default), (7, .el ⟨b7, 0, none⟩ 3 fun j => [SV.i .i64 a.van, .i .i64 a.run, .i .i64 a.num].getD j default), (8, .el ⟨b8, 0, none⟩ 3 fun j => [SV.i .i64 b.van, .i .i64 b.run, .i .i64 b.num].getD j default), (0, .mp 0 mb)], [.mq mb false [.u32, .u32] X.length (evKey X) (evVal X), .row (some ⟨b15, 0, none⟩) 27 (compactN d'.toList).length 3 3 (idnRd (compactN d'.toList).toArray), .box b16 32 [.i .i64 2, .i .u32 (min fr mt), .i .u32 (max fr mt), .os 1 (some ⟨b15, 0, none⟩) (compactN d'.toList).length 3]]⟩) (fun _ => True) ?_ ?_
    · (refine Sat.region_tree (.keep [0, 2, 4] [] (.alt 1 (.alt 3 (.alt 5 (.free 6 (.one 7 (.one 8 .done))) (.alt 7 (.one 5 (.one 6 (.one 8 .done))) .none)) (.alt 5 (.alt 3 (.free 6 (.one 7 (.one 8 .done))) (.alt 7 (.one 3 (.one 6 (.one 8 .done))) .none)) (.alt 7 (.alt 3 (.one 5 (.one 6 (.one 8 .done))) (.alt 5 (.one 3 (.one 6 (.one 8 .done))) .none)) .none))) (.alt 3 (.alt 1 (.alt 5 (.free 6 (.one 7 (.one 8 .done))) (.alt 7 (.one 5 (.one 6 (.one 8 .done))) .none)) (.alt 5 (.alt 1 (.free 6 (.one 7 (.one 8 .done))) (.alt 7 (.one 1 (.one 6 (.one 8 .done))) .none)) (.alt 7 (.alt 1 (.one 5 (.one 6 (.one 8 .done))) (.alt 5 (.one 1 (.one 6 (.one 8 .done))) .none)) .none))) (.alt 5 (.alt 1 (.alt 3 (.free 6 (.one 7 (.one 8 .done))) (.alt 7 (.one 3 (.one 6 (.one 8 .done))) .none)) (.alt 3 (.alt 1 (.free 6 (.one 7 (.one 8 .done))) (.alt 7 (.one 1 (.one 6 (.one 8 .done))) .none)) (.alt 7 (.alt 1 (.one 3 (.one 6 (.one 8 .done))) (.alt 3 (.one 1 (.one 6 (.one 8 .done))) .none)) .none))) (.alt 7 (.alt 1 (.alt 3 (.one 5 (.one 6 (.one 8 .done))) (.alt 5 (.one 3 (.one 6 (.one 8 .done))) .none)) (.alt 3 (.alt 1 (.one 5 (.one 6 (.one 8 .done))) (.alt 5 (.one 1 (.one 6 (.one 8 .done))) .none)) (.alt 5 (.alt 1 (.one 3 (.one 6 (.one 8 .done))) (.alt 3 (.one 1 (.one 6 (.one 8 .done))) .none)) .none))) .none))))) (by kernel_rfl) (by kernel_rfl) (fun _ _ h => h) fun k hk => ?_; simp only [WOT, List.map_cons, List.map_nil, List.getD_cons_zero, List.getD_cons_succ]; simp -implicitDefEqProofs only [evr, id, seval, idn_one, idn_0, idn_1, idn_2, par_one, rExtract_tup, WOT, evn])
      repeat' (first
        | (with_reducible refine And.intro ?_ ?_)
        | rfl
        | (refine wcall_mut 1 (compactNC F (some ⟨b15, 0, none⟩) 3 3 (by decide) d' hd') rfl rfl ?_
           rintro r o1 ⟨rfl, rfl⟩
           simp only [idnRow, evr, id, seval, idn_one, idn_0, idn_1, idn_2, par_one, List.append_nil, Int.toNat_zero, Nat.sub_self, Int.reduceToNat, rExtract_tup])
        | (with_reducible intro b16))
      all_goals
        refine hk _ ?_
        simp only [thenK]
        refine ⟨b16, trivial, ?_⟩
        simp -implicitDefEqProofs only [evr, id, seval, idn_one, idn_0, idn_1, idn_2, par_one, rExtract_tup, evl, evn]
        try exact fun i hi => ⟨rfl, rfl⟩
    rintro b16 -
    simp only [thenK]
    refine Sat.settleLeafF 2 3 rfl rfl rfl ?_
    simp only [List.set_cons_succ, List.set_cons_zero]
    rw [← hecs]
    refine Sat.settleLast [.mq mb false [.u32, .u32] X.length (evKey X) (evVal X), .frz (some ⟨b15, 0, none⟩) (compactN d'.toList).length 3 3 (idnRd (compactN d'.toList).toArray)] 16 rfl ?_
    refine Sat.cutOwn [.mq mb false [.u32, .u32] X.length (evKey X) (evVal X)] ?_
    rw [hecs]
    simp only [List.length_cons, List.length_nil, Nat.reduceAdd]
    have hkey : e.pr = ⟨min fr mt, max fr mt⟩ := hE.pr
    have hcov : ∀ X2 : List Evd, BestI Evd.pr evB (fun x => (C x ∨ ∃ c ∈ ids.take i, MatE a b c fr mt x) ∨ x = e) X2 → BestI Evd.pr evB (fun x => C x ∨ ∃ c ∈ ids.take (i + 1), MatE a b c fr mt x) X2 := fun X2 h2 => by
      refine h2.cover evB_neg (fun x hx => ?_) (fun x hx => ?_)
      · rw [htk]
        rcases hx with (hx | ⟨c', h8, h9⟩) | hx
        · exact .inl hx
        · exact .inr ⟨c', List.mem_append.2 (.inl h8), h9⟩
        · rw [hx]; exact .inr ⟨c, List.mem_append.2 (.inr (List.mem_singleton.2 rfl)), hE⟩
      · rw [htk] at hx
        rcases hx with hx | ⟨c', h8, h9⟩
        · exact ⟨x, .inl (.inl hx), rfl, evB_irrefl x⟩
        · rcases List.mem_append.1 h8 with h8 | h8
          · exact ⟨x, .inl (.inr ⟨c', h8, h9⟩), rfl, evB_irrefl x⟩
          · rw [List.mem_singleton] at h8
            subst h8
            refine ⟨e, .inr rfl, by rw [h9.pr, hkey], ?_⟩
            unfold evB
            rw [(evCmp_zero x e).2 ⟨h9.1.trans hE.1.symm, h9.2.1.trans hE.2.1.symm, h9.2.2.1.trans hE.2.2.1.symm, h9.2.2.2.unique hE.2.2.2⟩]
            rfl
    (repeat refine Sat.seq ?_)
    refine Sat.atF (ι := Nat × Option Nat) (fun z => ⟨73, [(18, .b z.2.isSome), (17, .op 1 z.1 0), (16, .el ⟨b16, 0, none⟩ 4 fun j => [SV.i .i64 2, .i .u32 (min fr mt), .i .u32 (max fr mt), .sl (some ⟨b15, 0, none⟩) (compactN d'.toList).length 3 3 (idnRd (compactN d'.toList).toArray)].getD j default), (14, .el ⟨b14, 0, none⟩ 3 fun j => [SV.i .i64 c.van, .i .i64 c.run, .i .i64 c.num].getD j default), (28, .i .i64 i), (27, .i .i64 ids.length), (26, .sl oa ids.length oc 3 (idnRd ids.toArray)), (12, .el ⟨b12, 0, none⟩ 2 fun j => [SV.i .u32 (min fr mt), .i .u32 (max fr mt)].getD j default), (7, .el ⟨b7, 0, none⟩ 3 fun j => [SV.i .i64 a.van, .i .i64 a.run, .i .i64 a.num].getD j default), (8, .el ⟨b8, 0, none⟩ 3 fun j => [SV.i .i64 b.van, .i .i64 b.run, .i .i64 b.num].getD j default), (0, .mp 0 mb)], [.mq mb false [.u32, .u32] X.length (evKey X) (evVal X), .box z.1 32 (Evd.cs (X.getD (z.2.getD X.length) default))]⟩)
      (fun z => (∀ n, z.2 = some n → n < X.length ∧ evKey X n = e.pr.keys) ∧ (z.2 = none → ∀ n, n < X.length → evKey X n ≠ e.pr.keys)) ?_ ?_
    · (refine Sat.region_k fun k hk => ?_; simp -implicitDefEqProofs only [evr, id, seval, idn_one, idn_0, idn_1, idn_2, par_one, rExtract_tup, evn])
      refine lookMq (l := e.pr.keys) hT (mqIn_own (id := 0) (m := .tmp 46) rfl rfl) rfl (by rw [hkey]; rfl) (evAg default) (by kernel_rfl) (fun R w j hj => by rcases (show j = 0 ∨ j = 1 ∨ j = 2 ∨ j = 3 by omega) with rfl | rfl | rfl | rfl <;> first | trivial | exact ⟨Nat.le_refl _, Nat.zero_le _, .inl rfl⟩) (show 48 < 73 by decide) (fun n hn hkn => ?_) (fun hno => ?_)
      · simp only [evVal, evAg, Evd.cs, evr, id, seval, idn_one, idn_0, idn_1, idn_2, par_one, List.append_nil, Int.toNat_zero, Nat.sub_self, Int.reduceToNat, rExtract_tup]
        intro b17
        refine hk _ ?_
        simp only [thenK]
        refine ⟨(b17, some n), ⟨fun n' h9 => (by have h8 : n = n' := (by simpa using h9); subst h8; exact ⟨hn, hkn⟩), fun h9 => (by cases h9)⟩, ?_⟩
        simp only [Option.isSome_some, Option.getD_some, Evd.cs]
        simp -implicitDefEqProofs only [evr, id, seval, idn_one, idn_0, idn_1, idn_2, par_one, rExtract_tup, evl, evn]
        try exact fun i hi => ⟨rfl, rfl⟩
      · simp only [evVal, evAg, Evd.cs, evr, id, seval, idn_one, idn_0, idn_1, idn_2, par_one, List.append_nil, Int.toNat_zero, Nat.sub_self, Int.reduceToNat, rExtract_tup]
        intro b17
        refine hk _ ?_
        simp only [thenK]
        refine ⟨(b17, none), ⟨fun n' h9 => (by cases h9), fun _ => hno⟩, ?_⟩
        have h9 : X.getD X.length default = default := by rw [List.getD_eq_getElem?_getD, List.getElem?_eq_none (Nat.le_refl _)]; rfl
        simp only [Option.isSome_none, Option.getD_none, h9, Evd.cs]
        simp -implicitDefEqProofs only [evr, id, seval, idn_one, idn_0, idn_1, idn_2, par_one, rExtract_tup, evl, evn]
        try exact fun i hi => ⟨rfl, rfl⟩
    rintro ⟨b17, z⟩ ⟨hz1, hz2⟩
    simp only [thenK] at hz1 hz2 ⊢
    obtain ⟨y, hy⟩ : ∃ y, y = X.getD (z.getD X.length) default := ⟨_, rfl⟩
    rw [← hy]
    have hyl : y.ids.length ≤ 3 := by
      rw [hy, List.getD_eq_getElem?_getD]
      cases h9 : X[z.getD X.length]? with
      | none => exact Nat.zero_le _
      | some v => exact hX v (List.mem_of_getElem? h9)
    refine Sat.settleLast [.mq mb false [.u32, .u32] X.length (evKey X) (evVal X)] 17 rfl ?_
    simp only [Evd.cs, List.length_cons, List.length_nil, Nat.reduceAdd]
    (repeat refine Sat.seq ?_)
    refine Sat.joinK (ι := Bool) (fun q => ⟨73, [(58, .b q), (16, .el ⟨b16, 0, none⟩ 4 fun j => [SV.i .i64 2, .i .u32 (min fr mt), .i .u32 (max fr mt), .sl (some ⟨b15, 0, none⟩) (compactN d'.toList).length 3 3 (idnRd (compactN d'.toList).toArray)].getD j default), (14, .el ⟨b14, 0, none⟩ 3 fun j => [SV.i .i64 c.van, .i .i64 c.run, .i .i64 c.num].getD j default), (28, .i .i64 i), (27, .i .i64 ids.length), (26, .sl oa ids.length oc 3 (idnRd ids.toArray)), (12, .el ⟨b12, 0, none⟩ 2 fun j => [SV.i .u32 (min fr mt), .i .u32 (max fr mt)].getD j default), (7, .el ⟨b7, 0, none⟩ 3 fun j => [SV.i .i64 a.van, .i .i64 a.run, .i .i64 a.num].getD j default), (8, .el ⟨b8, 0, none⟩ 3 fun j => [SV.i .i64 b.van, .i .i64 b.run, .i .i64 b.num].getD j default), (0, .mp 0 mb)], [.mq mb false [.u32, .u32] X.length (evKey X) (evVal X)]⟩) (fun q => q = (z.isNone || evB e y)) (fun hrest => ?_) ?_
    · have hce := compareEvC F e y (by omega) (by omega)
      unfold evAg at hce
      rw [hecs] at hce
      (refine Sat.region_k fun k hk => ?_; simp -implicitDefEqProofs only [evr, id, seval, idn_one, idn_0, idn_1, idn_2, par_one, rExtract_tup, evn])
      refine ⟨fun q1 => hk _ ((hrest _ rfl).le ?_), fun q1 => ?_⟩
      · have e9 : (z.isNone || evB e y) = true := by
          cases z with
          | none => rfl
          | some n => simp at q1
        rw [e9]
        simp -implicitDefEqProofs only [evr, id, seval, idn_one, idn_0, idn_1, idn_2, par_one, rExtract_tup, evl, evn]
        try exact fun i hi => ⟨rfl, rfl⟩
      · refine wcall_plain hce rfl (by rintro _ rfl; exact ok_plain rfl) ?_
        rintro _ rfl
        simp -implicitDefEqProofs only [evr, id, seval, idn_one, idn_0, idn_1, idn_2, par_one, rExtract_tup, evn]
        refine hk _ ((hrest _ rfl).le ?_)
        have e9 : (z.isNone || evB e y) = decide (evCmp e y < 0) := by
          cases z with
          | none => simp at q1
          | some n => rfl
        rw [e9]
        simp -implicitDefEqProofs only [evr, id, seval, idn_one, idn_0, idn_1, idn_2, par_one, rExtract_tup, evl, evn]
        try exact fun i hi => ⟨rfl, rfl⟩
    rintro q rfl
    refine Sat.joinK (ι := List Evd) (fun X2 => ⟨73, [(14, .el ⟨b14, 0, none⟩ 3 fun j => [SV.i .i64 c.van, .i .i64 c.run, .i .i64 c.num].getD j default), (28, .i .i64 i), (27, .i .i64 ids.length), (26, .sl oa ids.length oc 3 (idnRd ids.toArray)), (12, .el ⟨b12, 0, none⟩ 2 fun j => [SV.i .u32 (min fr mt), .i .u32 (max fr mt)].getD j default), (7, .el ⟨b7, 0, none⟩ 3 fun j => [SV.i .i64 a.van, .i .i64 a.run, .i .i64 a.num].getD j default), (8, .el ⟨b8, 0, none⟩ 3 fun j => [SV.i .i64 b.van, .i .i64 b.run, .i .i64 b.num].getD j default), (0, .mp 0 mb)], [.mq mb false [.u32, .u32] X2.length (evKey X2) (evVal X2)]⟩) (fun X2 => BestI Evd.pr evB (fun x => C x ∨ ∃ c ∈ ids.take (i + 1), MatE a b c fr mt x) X2 ∧ ∀ e ∈ X2, e.ids.length ≤ 3) (fun hrest => ?_) ?_
    · refine Sat.cond_b rfl (fun h5 => ?_) (fun h5 => ?_)
      · (repeat refine Sat.seq ?_)
        refine Sat.region_k fun kk hk => ?_
        simp -implicitDefEqProofs only [evr, id, seval, idn_one, idn_0, idn_1, idn_2, par_one, rExtract_tup, evn]
        refine updMq (l := e.pr.keys) hT rfl rfl rfl (by rw [hkey]; rfl) rfl trivial (fun n2 hn2 hk2 => ?_) (fun hno => ?_)
        · have hn9 : evKey X n2 = e.pr.keys := hk2
          obtain ⟨n, rfl⟩ : ∃ n, z = some n := by
            cases z with
            | none => exact absurd hn9 (hz2 rfl n2 hn2)
            | some n => exact ⟨n, rfl⟩
          obtain ⟨hn, hkn⟩ := hz1 n rfl
          have hXn : ∀ q, (hq : q < X.length) → evKey X q = (X[q]).pr.keys := fun q hq => by
            unfold evKey; rw [List.getD_eq_getElem?_getD, List.getElem?_eq_getElem hq]; rfl
          have hnn : n2 = n := hB.inj hn2 hn (parKeys_inj (by rw [← hXn n2 hn2, ← hXn n hn, hn9, hkn]))
          subst hnn
          have hyn : y = X[n2] := by rw [hy, Option.getD_some, List.getD_eq_getElem?_getD, List.getElem?_eq_getElem hn]; rfl
          have hlt : evB e X[n2] = true := by rw [← hyn]; simpa using h5
          have hkk : (X[n2]).pr = e.pr := parKeys_inj (by rw [← hXn n2 hn2, hn9])
          simp -implicitDefEqProofs only [evr, id, seval, idn_one, idn_0, idn_1, idn_2, par_one, rExtract_tup, evn]
          refine hk _ ?_
          clear hk kk
          simp only [thenK, blockK]
          obtain ⟨X2, hX2⟩ : ∃ X2, X2 = X.set n2 e := ⟨_, rfl⟩
          have hB2 := hcov X2 (by rw [hX2]; exact hB.set evB_irrefl evB_trans hn2 hkk hlt)
          have hX2l : ∀ e ∈ X2, e.ids.length ≤ 3 := fun f hf => by
            rw [hX2] at hf
            rcases List.mem_or_eq_of_mem_set hf with hf | hf
            · exact hX f hf
            · rw [hf]; exact hel
          refine (hrest X2 ⟨hB2, hX2l⟩).le ?_
          simp -implicitDefEqProofs only [evr, id, seval, idn_one, idn_0, idn_1, idn_2, par_one, rExtract_tup, evl, evn]
          refine ⟨by rw [hX2, List.length_set], fun q hq => ?_⟩
          unfold evKey evVal
          rw [hX2]
          simp only []
          by_cases h9 : q = n2
          · subst h9
            rw [getD_set_self hn2, if_pos rfl, evAg, hecs]
            refine ⟨?_, rfl⟩
            rw [← hkk, List.getD_eq_getElem?_getD, List.getElem?_eq_getElem hn2]
            rfl
          · rw [getD_set_ne (Ne.symm h9), if_neg h9]
            exact ⟨rfl, rfl⟩
        · have hno2 : ∀ n2, n2 < X.length → evKey X n2 ≠ e.pr.keys := hno
          simp -implicitDefEqProofs only [evr, id, seval, idn_one, idn_0, idn_1, idn_2, par_one, rExtract_tup, evn]
          refine hk _ ?_
          clear hk kk
          simp only [thenK, blockK]
          obtain ⟨X2, hX2⟩ : ∃ X2, X2 = X ++ [e] := ⟨_, rfl⟩
          have hB2 := hcov X2 (by
            rw [hX2]
            refine hB.new evB_irrefl (fun f hf h9 => ?_)
            obtain ⟨q, hq, rfl⟩ := List.getElem_of_mem hf
            refine hno2 q hq ?_
            unfold evKey
            rw [List.getD_eq_getElem?_getD, List.getElem?_eq_getElem hq]
            exact congrArg Par.keys h9)
          have hX2l : ∀ e ∈ X2, e.ids.length ≤ 3 := fun f hf => by
            rw [hX2] at hf
            rcases List.mem_append.1 hf with hf | hf
            · exact hX f hf
            · rw [List.mem_singleton] at hf; rw [hf]; exact hel
          refine (hrest X2 ⟨hB2, hX2l⟩).le ?_
          simp -implicitDefEqProofs only [evr, id, seval, idn_one, idn_0, idn_1, idn_2, par_one, rExtract_tup, evl, evn]
          refine ⟨by rw [hX2, List.length_append]; rfl, fun q hq => ?_⟩
          unfold evKey evVal
          rw [hX2]
          simp only []
          by_cases h9 : q = X.length
          · subst h9
            have e9 : (X ++ [e]).getD X.length default = e := by rw [List.getD_eq_getElem?_getD, List.getElem?_concat_length]; rfl
            rw [e9, if_pos rfl, if_pos rfl, evAg, hecs, hkey]
            exact ⟨rfl, rfl⟩
          · have e9 : (X ++ [e]).getD q default = X.getD q default := by
              rw [List.getD_eq_getElem?_getD, List.getElem?_append_left (by omega), List.getD_eq_getElem?_getD]
            rw [e9, if_neg h9, if_neg h9]
            exact ⟨rfl, rfl⟩
      · refine Sat.skip ?_
        simp only [thenK, blockK]
        obtain ⟨n, rfl⟩ : ∃ n, z = some n := by
          cases z with
          | none => simp at h5
          | some n => exact ⟨n, rfl⟩
        obtain ⟨hn, hkn⟩ := hz1 n rfl
        have hyn : y = X[n] := by rw [hy, Option.getD_some, List.getD_eq_getElem?_getD, List.getElem?_eq_getElem hn]; rfl
        have hlt : evB e X[n] = false := by rw [← hyn]; simpa using h5
        have hkk : (X[n]).pr = e.pr := parKeys_inj (by
          rw [← hkn]; unfold evKey; rw [List.getD_eq_getElem?_getD, List.getElem?_eq_getElem hn]; rfl)
        refine (hrest X ⟨hcov X (hB.keep hn hkk hlt), hX⟩).le ?_
        simp -implicitDefEqProofs only [evr, id, seval, idn_one, idn_0, idn_1, idn_2, par_one, rExtract_tup, evl, evn]
        try exact fun i hi => ⟨rfl, rfl⟩
    · rintro X2 ⟨hB2, hX2⟩
      (repeat refine Sat.seq ?_)
      refine Sat.joinK (ι := Bool) (fun q => ⟨73, [(71, .b q), (28, .i .i64 i), (27, .i .i64 ids.length), (26, .sl oa ids.length oc 3 (idnRd ids.toArray)), (12, .el ⟨b12, 0, none⟩ 2 fun j => [SV.i .u32 (min fr mt), .i .u32 (max fr mt)].getD j default), (7, .el ⟨b7, 0, none⟩ 3 fun j => [SV.i .i64 a.van, .i .i64 a.run, .i .i64 a.num].getD j default), (8, .el ⟨b8, 0, none⟩ 3 fun j => [SV.i .i64 b.van, .i .i64 b.run, .i .i64 b.num].getD j default), (0, .mp 0 mb)], [.mq mb false [.u32, .u32] X2.length (evKey X2) (evVal X2)]⟩) (fun q => q = (decide (0 < idnCmpI c a) && decide (0 < idnCmpI c b))) (fun hrest => ?_) ?_
      · (refine Sat.region_k fun k hk => ?_; simp -implicitDefEqProofs only [evr, id, seval, idn_one, idn_0, idn_1, idn_2, par_one, rExtract_tup, evn])
        refine wcall_plain (compareIdC F c a) rfl (by rintro _ rfl; exact ok_plain rfl) ?_
        rintro _ rfl
        simp -implicitDefEqProofs only [evr, id, seval, idn_one, idn_0, idn_1, idn_2, par_one, rExtract_tup, evn]
        refine ⟨fun q1 => ?_, fun q1 => hk _ ((hrest _ rfl).le ?_)⟩
        · refine wcall_plain (compareIdC F c b) rfl (by rintro _ rfl; exact ok_plain rfl) ?_
          rintro _ rfl
          simp -implicitDefEqProofs only [evr, id, seval, idn_one, idn_0, idn_1, idn_2, par_one, rExtract_tup, evn]
          refine hk _ ((hrest _ rfl).le ?_)
          rw [decide_eq_true q1, Bool.true_and]
          simp -implicitDefEqProofs only [evr, id, seval, idn_one, idn_0, idn_1, idn_2, par_one, rExtract_tup, evl, evn]
          try exact fun i hi => ⟨rfl, rfl⟩
        · rw [decide_eq_false q1, Bool.false_and]
          simp -implicitDefEqProofs only [evr, id, seval, idn_one, idn_0, idn_1, idn_2, par_one, rExtract_tup, evl, evn]
          try exact fun i hi => ⟨rfl, rfl⟩
      rintro q rfl
      refine Sat.cond_b rfl (fun h5 => ?_) (fun h5 => ?_)
      · refine Sat.ret ?_
        simp only [thenK, blockK, Tryz.results59, evr, id, seval, idn_one, idn_0, idn_1, idn_2, par_one, List.append_nil, Int.toNat_zero, Nat.sub_self, Int.reduceToNat, rExtract_tup]
        simp only [Bool.and_eq_true, decide_eq_true_eq] at h5
        have ha : idnLt a c = true := by unfold idnLt; rw [decide_eq_true_eq]; have := idnCmp_neg a c; omega
        have hb : idnLt b c = true := by unfold idnLt; rw [decide_eq_true_eq]; have := idnCmp_neg b c; omega
        have hB3 : BestI Evd.pr evB (fun x => C x ∨ ∃ c ∈ ids, MatE a b c fr mt x) X2 := by
          refine hB2.cover evB_neg (fun x hx => hx.imp id fun ⟨c', h8, h9⟩ => ⟨c', List.mem_of_mem_take h8, h9⟩) (fun x hx => ?_)
          rcases hx with hx | ⟨c', h8, h9⟩
          · exact ⟨x, .inl hx, rfl, evB_irrefl x⟩
          · by_cases hm : c' ∈ ids.take (i + 1)
            · exact ⟨x, .inr ⟨c', hm, h9⟩, rfl, evB_irrefl x⟩
            · have hcc : idnLt c' c = false := by
                obtain ⟨q, hq, rfl⟩ := List.getElem_of_mem h8
                have hqi : i < q := by
                  refine Nat.lt_of_not_le fun hle => hm ?_
                  exact List.mem_of_getElem? (i := q) (by rw [List.getElem?_take_of_lt (by omega), List.getElem?_eq_getElem hq])
                have := List.pairwise_iff_getElem.1 hs i q h1 hq hqi
                rwa [hci] at this
              refine ⟨e, .inr ⟨c, by rw [htk]; exact List.mem_append.2 (.inr (List.mem_singleton.2 rfl)), hE⟩, by rw [h9.pr, hkey], mat_later ha hb hcc hE h9⟩
        exact ⟨_, _, rfl, X2, hB3, hX2, rfl⟩
      · refine Sat.skip ?_
        simp only [thenK, blockK, reduceIte]
        refine Sat.region_k fun kk hk => ?_
        simp -implicitDefEqProofs only [evr, id, seval, idn_one, idn_0, idn_1, idn_2, par_one, rExtract_tup, e1, evn]
        refine hk _ ?_
        simp only [thenK, blockK]
        refine ⟨(i + 1, X2), ⟨by simp only; omega, hB2, hX2⟩, by simp only; omega, ?_⟩
        simp -implicitDefEqProofs only [evr, id, seval, idn_one, idn_0, idn_1, idn_2, par_one, rExtract_tup, evl, evn]
        try exact fun i hi => ⟨rfl, rfl⟩
  · have h1 : i = ids.length := by simp only [decide_eq_false_iff_not] at h; omega
    subst h1
    rw [List.take_length] at hB
    refine Sat.exit ?_
    simp only [thenK, blockK, reduceIte]
    simp only [Tryz.results59, evr, id, seval, idn_one, idn_0, idn_1, idn_2, par_one, List.append_nil, Int.toNat_zero, Nat.sub_self, Int.reduceToNat, rExtract_tup]
    exact ⟨_, _, rfl, X, hB, hX, rfl⟩
end Go.Proofs.YtfeiiadligkamaaGreat
