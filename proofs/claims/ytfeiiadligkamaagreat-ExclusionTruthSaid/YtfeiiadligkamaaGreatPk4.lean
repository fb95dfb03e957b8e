import Derived.Test.YtfeiiadligkamaaGreatCmD
import Derived.Sort.AssemblyPlain
import Derived.Test.YtfeiiadligkamaaGreatExM
import Derived.Test.YtfeiiadligkamaaGreatExcMath
import Derived.Test.YtfeiiadligkamaaGreatCmC
import Derived.Test.YtfeiiadligkamaaGreatPk3
import Derived.Test.YtfeiiadligkamaaGreatPk2
import Derived.Test.YtfeiiadligkamaaGreatSrtLay
import Derived.Test.YtfeiiadligkamaaGreatCmB

/- The order of evidence (no program in sight). -/
set_option linter.unusedSimpArgs false
set_option linter.unusedVariables false
namespace Go.Proofs.YtfeiiadligkamaaGreat
open Eng
theorem idnCmp_neg (a b : Idn) : idnCmpI b a = - idnCmpI a b := cmpL_neg _ _
theorem cmpIds_neg : ∀ (l m : List Idn), cmpIds m l = - cmpIds l m
 | [], [] => rfl
 | [], _ :: _ => rfl
 | _ :: _, [] => rfl
 | x :: l, y :: m => by
  unfold cmpIds
  rw [idnCmp_neg x y, cmpIds_neg l m]
  by_cases h : idnCmpI x y = 0
  ·rw [if_neg (by simp [h]), if_neg (by simp [h])]
  ·rw [if_pos (by omega), if_pos h]
theorem cmpIds_zero : ∀ {l m : List Idn}, cmpIds l m = 0 ↔ l = m
 | [], [] => by simp [cmpIds]
 | [], _ :: _ => by simp [cmpIds]
 | _ :: _, [] => by simp [cmpIds]
 | x :: l, y :: m => by
  unfold cmpIds
  by_cases h : idnCmpI x y = 0
  ·rw [if_neg (by simp [h]), cmpIds_zero]
   have := idnCmpI_zero.1 h
   subst this
   simp
  ·rw [if_pos h]
   constructor
   ·intro h2; exact absurd h2 h
   ·intro h2
    simp only [List.cons.injEq] at h2
    exact absurd (idnCmpI_zero.2 h2.1) h
theorem cmpIds_trans : ∀ {l m n : List Idn}, cmpIds l m ≤ 0 → cmpIds m n ≤ 0 → cmpIds l n ≤ 0
 | [], _, [], _, _ => by simp [cmpIds]
 | [], _, _ :: _, _, _ => by simp [cmpIds]
 | _ :: _, [], _, h, _ => by simp [cmpIds] at h
 | _ :: _, _ :: _, [], _, h => by simp [cmpIds] at h
 | x :: l, y :: m, z :: n, h1, h2 => by
  unfold cmpIds at h1 h2 ⊢
  by_cases a : idnCmpI x y = 0
  ·have e := idnCmpI_zero.1 a
   subst e
   rw [if_neg (by simp [a])] at h1
   by_cases b : idnCmpI x z = 0
   ·rw [if_neg (by simp [b])] at h2
    rw [if_neg (by simp [b])]
    exact cmpIds_trans h1 h2
   ·rw [if_pos b] at h2
    rw [if_pos b]
    exact h2
  ·rw [if_pos a] at h1
   have a1 : idnCmpI x y < 0 := by omega
   by_cases b : idnCmpI y z = 0
   ·have e := idnCmpI_zero.1 b
    subst e
    rw [if_pos a]
    exact h1
   ·rw [if_pos b] at h2
    have b1 : idnCmpI y z < 0 := by omega
    have c := cmpL_trans x.keys y.keys z.keys rfl rfl a1 b1
    have c' : idnCmpI x z < 0 := c
    rw [if_pos (by omega)]
    omega
def lex3 (p q r w : Int) : Int := if p ≠ 0 then p else if q ≠ 0 then q else if r ≠ 0 then r else w
theorem evCmp_lex (e f : Evd) : evCmp e f = lex3 (ordI e.kind f.kind) (ordI e.a f.a) (ordI e.b f.b) (cmpIds e.ids f.ids) := by
 unfold evCmp lex3 orL orL orL orL orL
 by_cases h : cmpIds e.ids f.ids = 0
 ·simp [h]
 ·simp [h]
theorem evCmp_neg (e f : Evd) : evCmp f e = - evCmp e f := by
 rw [evCmp_lex, evCmp_lex, ordI_neg e.kind, ordI_neg e.a, ordI_neg e.b, cmpIds_neg e.ids]
 unfold lex3
 by_cases h1 : ordI e.kind f.kind = 0
 ·by_cases h2 : ordI e.a f.a = 0
  ·by_cases h3 : ordI e.b f.b = 0
   ·simp [h1, h2, h3]
   ·simp [h1, h2, h3]
  ·simp [h1, h2]
 ·simp [h1]
theorem evCmp_zero (e f : Evd) : evCmp e f = 0 ↔ e.kind = f.kind ∧ e.a = f.a ∧ e.b = f.b ∧ e.ids = f.ids := by
 rw [evCmp_lex]
 unfold lex3
 by_cases h1 : ordI e.kind f.kind = 0
 ·rw [if_neg (by simp [h1])]
  by_cases h2 : ordI e.a f.a = 0
  ·rw [if_neg (by simp [h2])]
   by_cases h3 : ordI e.b f.b = 0
   ·rw [if_neg (by simp [h3]), cmpIds_zero]
    rw [ordI_zero] at h1 h2 h3
    simp [h1, h2, h3]
   ·rw [if_pos h3]
    exact ⟨fun h => absurd h h3, fun h => absurd (ordI_zero.2 h.2.2.1) h3⟩
  ·rw [if_pos h2]
   exact ⟨fun h => absurd h h2, fun h => absurd (ordI_zero.2 h.2.1) h2⟩
 ·rw [if_pos h1]
  exact ⟨fun h => absurd h h1, fun h => absurd (ordI_zero.2 h.1) h1⟩
theorem ordI_cases (a b : Int) : (a < b ∧ ordI a b = -1) ∨ (a = b ∧ ordI a b = 0) ∨ (b < a ∧ ordI a b = 1) := by
 unfold ordI
 split
 ·exact .inl ⟨by assumption, rfl⟩
 ·split
  ·exact .inr (.inr ⟨by assumption, rfl⟩)
  ·exact .inr (.inl ⟨by omega, rfl⟩)
theorem evCmp_trans (e f g : Evd) (h1 : evCmp e f ≤ 0) (h2 : evCmp f g ≤ 0) : evCmp e g ≤ 0 := by
 rw [evCmp_lex] at h1 h2 ⊢
 have ht := @cmpIds_trans e.ids f.ids g.ids
 unfold lex3 at *
 rcases ordI_cases e.kind f.kind with ⟨a1, a2⟩ | ⟨a1, a2⟩ | ⟨a1, a2⟩ <;> rcases ordI_cases f.kind g.kind with ⟨b1, b2⟩ | ⟨b1, b2⟩ | ⟨b1, b2⟩ <;> rcases ordI_cases e.kind g.kind with ⟨c1, c2⟩ | ⟨c1, c2⟩ | ⟨c1, c2⟩ <;> first | omega | skip
 all_goals simp only [a2, b2, c2, ne_eq, not_true_eq_false, if_false, reduceIte, Int.reduceNeg, Int.reduceEq, not_false_eq_true, if_true] at h1 h2 ⊢
 all_goals first | omega | skip
 all_goals
  rcases ordI_cases e.a f.a with ⟨d1, d2⟩ | ⟨d1, d2⟩ | ⟨d1, d2⟩ <;> rcases ordI_cases f.a g.a with ⟨x1, x2⟩ | ⟨x1, x2⟩ | ⟨x1, x2⟩ <;> rcases ordI_cases e.a g.a with ⟨y1, y2⟩ | ⟨y1, y2⟩ | ⟨y1, y2⟩ <;> first | omega | skip
 all_goals simp only [d2, x2, y2, ne_eq, not_true_eq_false, if_false, reduceIte, Int.reduceNeg, Int.reduceEq, not_false_eq_true, if_true] at h1 h2 ⊢
 all_goals first | omega | skip
 all_goals
  rcases ordI_cases e.b f.b with ⟨m1, m2⟩ | ⟨m1, m2⟩ | ⟨m1, m2⟩ <;> rcases ordI_cases f.b g.b with ⟨n1, n2⟩ | ⟨n1, n2⟩ | ⟨n1, n2⟩ <;> rcases ordI_cases e.b g.b with ⟨o1, o2⟩ | ⟨o1, o2⟩ | ⟨o1, o2⟩ <;> first | omega | skip
 all_goals simp only [m2, n2, o2, ne_eq, not_true_eq_false, if_false, reduceIte, Int.reduceNeg, Int.reduceEq, not_false_eq_true, if_true] at h1 h2 ⊢
 all_goals first | omega | exact ht h1 h2
end Go.Proofs.YtfeiiadligkamaaGreat


/- Rows of evidence that is not long. -/
namespace Go.Proofs.YtfeiiadligkamaaGreat
open Go.Sort Eng
structure Evs where
 e : Evd
 h : e.ids.length ≤ 1000
instance : Inhabited Evs := ⟨⟨default, Nat.zero_le _⟩⟩
def Evs.cs (x : Evs) : List SV := Evd.cs x.e
def evsRd (d : Array Evs) : Nat → Nat → SV := fun i j => (Evs.cs d[i]!).getD j default
def evsRow (ad : Option Addr) (N cap : Nat) (d : Array Evs) : Eng.Own := .row ad 32 N cap 4 (evsRd d)
def evsAg (x : Evs) : SV := .agg 4 fun j => (Evs.cs x).getD j default
def evsCmp (g : FuncId) (lt : Evs → Evs → Bool) : Prop := ∀ x y, ∃ c : Int, lt x y = decide (c < 0) ∧ ∀ F, Contract F Tryz.prog g [evsAg x, evsAg y] (fun r => r = .i .i64 c)
def evsLt (x y : Evs) : Bool := decide (evCmp x.e y.e < 0)
theorem evsCmp1 : evsCmp 61 evsLt := fun x y => ⟨evCmp x.e y.e, rfl, fun F => compareEvC F x.e y.e (by have := x.h; omega) (by have := y.h; omega)⟩
end Go.Proofs.YtfeiiadligkamaaGreat


/- The best of each pair (no program in sight). -/
namespace Go.Proofs.YtfeiiadligkamaaGreat
open Eng Go.Sort
theorem orL_cons (x : Int) (l : List Int) : orL (x :: l) = if x ≠ 0 then x else orL l := rfl
theorem orL_app : ∀ (l m : List Int), orL (l ++ m) = if orL l ≠ 0 then orL l else orL m
 | [], m => by simp [orL]
 | x :: l, m => by
  rw [List.cons_append, orL_cons, orL_cons, orL_app l m]
  by_cases h : x = 0 <;> simp [h]
theorem idnCmp_orL (x y : Idn) : idnCmpI x y = orL [ordI x.van y.van, ordI x.run y.run, ordI x.num y.num] := rfl
theorem excCmp_or (x y : Exc) : excCmpI x y = orL [ordI x.a y.a, ordI x.b y.b, idnCmpI x.f y.f, idnCmpI x.s y.s] := by
 have e : excCmpI x y = orL ([ordI x.a y.a, ordI x.b y.b] ++ ([ordI x.f.van y.f.van, ordI x.f.run y.f.run, ordI x.f.num y.f.num] ++ [ordI x.s.van y.s.van, ordI x.s.run y.s.run, ordI x.s.num y.s.num])) := rfl
 rw [e, orL_app, orL_app, ← idnCmp_orL, ← idnCmp_orL]
 simp only [orL_cons, orL]
 repeat' split
 all_goals first | rfl | omega | contradiction | simp_all
def Exc.pr (x : Exc) : Par := ⟨x.a, x.b⟩
def excB (x y : Exc) : Bool := decide (cmpIds [x.s, x.f] [y.s, y.f] < 0)
theorem cmpIds_lt_trans {l m n : List Idn} (h : cmpIds l m < 0) (k : cmpIds m n < 0) : cmpIds l n < 0 := by
 have h1 := cmpIds_trans (Int.le_of_lt h) (Int.le_of_lt k)
 rcases Int.lt_or_eq_of_le h1 with h2 | h2
 ·exact h2
 ·have e := cmpIds_zero.1 h2
  subst e
  have := cmpIds_neg l m
  omega
theorem excB_irrefl (x : Exc) : excB x x = false := by
 unfold excB
 rw [decide_eq_false_iff_not, cmpIds_zero.2 rfl]
 omega
theorem excB_trans (x y z : Exc) (h : excB x y = true) (k : excB y z = true) : excB x z = true := by
 unfold excB at *
 rw [decide_eq_true_eq] at *
 exact cmpIds_lt_trans h k
theorem excB_both {x y : Exc} (h : excB x y = false) (k : excB y x = false) : x.f = y.f ∧ x.s = y.s := by
 unfold excB at *
 rw [decide_eq_false_iff_not] at *
 have n := cmpIds_neg [x.s, x.f] [y.s, y.f]
 have e := cmpIds_zero.1 (show cmpIds [x.s, x.f] [y.s, y.f] = 0 by omega)
 simp only [List.cons.injEq, and_true] at e
 exact ⟨e.2, e.1⟩
/-! ### The best of each key -/
section
variable {α : Type} {key : α → Par} {lt : α → α → Bool}
structure BestI (key : α → Par) (lt : α → α → Bool) (C : α → Prop) (X : List α) : Prop where
 nodup : (X.map key).Nodup
 each : ∀ e ∈ X, C e ∧ ∀ x, C x → key x = key e → lt x e = false
 all : ∀ x, C x → ∃ e ∈ X, key e = key x
theorem BestI.start : BestI key lt (fun _ => False) [] := ⟨List.nodup_nil, fun e he => (by cases he), fun x hx => hx.elim⟩
theorem BestI.congr {C C' : α → Prop} {X : List α} (h : BestI key lt C X) (hc : ∀ x, C x ↔ C' x) : BestI key lt C' X :=
 ⟨h.nodup, fun e he => ⟨(hc e).1 (h.each e he).1, fun x hx => (h.each e he).2 x ((hc x).2 hx)⟩, fun x hx => h.all x ((hc x).2 hx)⟩
theorem BestI.new {C : α → Prop} {X : List α} (hi : ∀ x, lt x x = false) (h : BestI key lt C X) {y : α} (hn : ∀ e ∈ X, key e ≠ key y) : BestI key lt (fun x => C x ∨ x = y) (X ++ [y]) := by
 refine ⟨?_, fun e he => ?_, fun x hx => ?_⟩
 ·rw [List.map_append, List.nodup_append]
  refine ⟨h.nodup, by simp, fun a ha b hb e => ?_⟩
  obtain ⟨x, hx, rfl⟩ := List.mem_map.1 ha
  rw [List.map_singleton, List.mem_singleton] at hb
  exact hn x hx (by rw [e, hb])
 ·rcases List.mem_append.1 he with he | he
  ·refine ⟨.inl (h.each e he).1, fun x hx hk => ?_⟩
   rcases hx with hx | hx
   ·exact (h.each e he).2 x hx hk
   ·rw [hx] at hk; exact absurd hk.symm (hn e he)
  ·rw [List.mem_singleton] at he
   subst he
   refine ⟨.inr rfl, fun x hx hk => ?_⟩
   rcases hx with hx | rfl
   ·obtain ⟨e', he', hk'⟩ := h.all x hx
    exact absurd (hk'.trans hk) (hn e' he')
   ·exact hi x
 ·rcases hx with hx | rfl
  ·obtain ⟨e, he, hk⟩ := h.all x hx
   exact ⟨e, List.mem_append.2 (.inl he), hk⟩
  ·exact ⟨x, List.mem_append.2 (.inr (List.mem_singleton.2 rfl)), rfl⟩
theorem BestI.inj {C : α → Prop} {X : List α} (h : BestI key lt C X) {i j : Nat} (hi : i < X.length) (hj : j < X.length) (e : key X[i] = key X[j]) : i = j := by
 refine (List.getElem?_inj (by simpa using hi) h.nodup).1 ?_
 rw [List.getElem?_map, List.getElem?_map, List.getElem?_eq_getElem hi, List.getElem?_eq_getElem hj]
 simp [e]
theorem BestI.set {C : α → Prop} {X : List α} (hi : ∀ x, lt x x = false) (ht : ∀ x y z, lt x y = true → lt y z = true → lt x z = true) (h : BestI key lt C X) {y : α} {i : Nat} (hl : i < X.length) (hk : key X[i] = key y) (hb : lt y X[i] = true) : BestI key lt (fun x => C x ∨ x = y) (X.set i y) := by
 refine ⟨?_, fun e he => ?_, fun x hx => ?_⟩
 ·have e : (X.set i y).map key = X.map key := by
   rw [List.map_set, ← hk]
   apply List.ext_getElem?
   intro j
   rw [List.getElem?_set]
   split
   ·rename_i e; subst e; simp [hl]
   ·rfl
  rw [e]; exact h.nodup
 ·obtain ⟨j, hj, rfl⟩ := List.getElem_of_mem he
  rw [List.length_set] at hj
  rw [List.getElem_set]
  split
  ·refine ⟨.inr rfl, fun x hx hkx => ?_⟩
   rcases hx with hx | rfl
   ·cases hlt : lt x y with
    | false => rfl
    | true =>
     have h1 := (h.each X[i] (List.getElem_mem _)).2 x hx (by rw [hkx, hk])
     rw [ht _ _ _ hlt hb] at h1
     cases h1
   ·exact hi x
  ·rename_i hne
   refine ⟨.inl (h.each X[j] (List.getElem_mem _)).1, fun x hx hkx => ?_⟩
   rcases hx with hx | hx
   ·exact (h.each X[j] (List.getElem_mem _)).2 x hx hkx
   ·rw [hx] at hkx; exact absurd (h.inj hl hj (by rw [hk, hkx])) hne
 ·have hx' : ∃ e ∈ X, key e = key x := by
   rcases hx with hx | rfl
   ·exact h.all x hx
   ·exact ⟨X[i], List.getElem_mem _, hk⟩
  obtain ⟨e, he, hke⟩ := hx'
  obtain ⟨j, hj, rfl⟩ := List.getElem_of_mem he
  by_cases e : i = j
  ·subst e
   exact ⟨y, List.mem_of_getElem? (List.getElem?_set_self hl), by rw [← hk, hke]⟩
  ·exact ⟨X[j], List.mem_of_getElem? (i := j) (by rw [List.getElem?_set_ne e, List.getElem?_eq_getElem hj]), hke⟩
theorem BestI.keep {C : α → Prop} {X : List α} (h : BestI key lt C X) {y : α} {i : Nat} (hl : i < X.length) (hk : key X[i] = key y) (hb : lt y X[i] = false) : BestI key lt (fun x => C x ∨ x = y) X := by
 refine ⟨h.nodup, fun e he => ⟨.inl (h.each e he).1, fun x hx hkx => ?_⟩, fun x hx => ?_⟩
 ·rcases hx with hx | rfl
  ·exact (h.each e he).2 x hx hkx
  ·obtain ⟨j, hj, rfl⟩ := List.getElem_of_mem he
   obtain rfl := h.inj hl hj (by rw [hk, hkx])
   exact hb
 ·rcases hx with hx | rfl
  ·exact h.all x hx
  ·exact ⟨X[i], List.getElem_mem _, hk⟩
structure BestOf (key : α → Par) (lt : α → α → Bool) (C : α → Prop) (es : List α) : Prop where
 asc : es.Pairwise fun x y => parLt (key x) (key y) = true
 each : ∀ e ∈ es, C e ∧ ∀ x, C x → key x = key e → lt x e = false
 all : ∀ x, C x → ∃ e ∈ es, key e = key x
theorem BestI.sorted {C : α → Prop} {X L : List α} (h : BestI key lt C X) (hp : L.Perm X) (hs : L.Pairwise fun x y => parLt (key y) (key x) = false) : BestOf key lt C L := by
 have hn : (L.map key).Nodup := (hp.map key).nodup_iff.2 h.nodup
 refine ⟨?_, fun e he => h.each e (hp.mem_iff.1 he), fun x hx => ?_⟩
 ·rw [List.pairwise_iff_getElem] at hs ⊢
  intro i j hi hj hij
  have h1 := hs i j hi hj hij
  rcases parLt_total (key L[i]) (key L[j]) with h2 | h2 | h2
  ·exact h2
  ·have := (List.getElem?_inj (i := i) (j := j) (by simpa using hi) hn).1 (by
    rw [List.getElem?_map, List.getElem?_map, List.getElem?_eq_getElem hi, List.getElem?_eq_getElem hj]
    simp [h2])
   omega
  ·rw [h1] at h2; cases h2
 ·obtain ⟨e, he, hk⟩ := h.all x hx
  exact ⟨e, hp.mem_iff.2 he, hk⟩
theorem asc_keys {l m : List α} (hl : l.Pairwise fun x y => parLt (key x) (key y) = true) (hm : m.Pairwise fun x y => parLt (key x) (key y) = true) (h : ∀ p, (∃ e ∈ l, key e = p) ↔ ∃ e ∈ m, key e = p) : l.map key = m.map key := by
 have hlp : (l.map key).Pairwise fun x y => parLt x y = true := List.pairwise_map.2 hl
 have hmp : (m.map key).Pairwise fun x y => parLt x y = true := List.pairwise_map.2 hm
 have hmem : ∀ p, p ∈ l.map key ↔ p ∈ m.map key := fun p => by
  rw [List.mem_map, List.mem_map]
  exact h p
 generalize l.map key = a at hlp hmem
 generalize m.map key = b at hmp hmem
 clear hl hm h
 induction a generalizing b with
 | nil =>
  cases b with
  | nil => rfl
  | cons y b => have := (hmem y).2 (by simp); cases this
 | cons x a ih =>
  cases b with
  | nil => have := (hmem x).1 (by simp); cases this
  | cons y b =>
   have h1 := List.pairwise_cons.1 hlp
   have h2 := List.pairwise_cons.1 hmp
   have hxy : x = y := by
    rcases List.mem_cons.1 ((hmem x).1 (by simp)) with e | e
    ·exact e
    ·rcases List.mem_cons.1 ((hmem y).2 (by simp)) with e' | e'
     ·exact e'.symm
     ·have := parLt_trans _ _ _ (h2.1 x e) (h1.1 y e')
      rw [parLt_irrefl] at this; cases this
   subst hxy
   congr 1
   refine ih h1.2 b h2.2 fun p => ⟨fun hp => ?_, fun hp => ?_⟩
   ·rcases List.mem_cons.1 ((hmem p).1 (List.mem_cons_of_mem _ hp)) with e | e
    ·subst e
     have := h1.1 p hp
     rw [parLt_irrefl] at this; cases this
    ·exact e
   ·rcases List.mem_cons.1 ((hmem p).2 (List.mem_cons_of_mem _ hp)) with e | e
    ·subst e
     have := h2.1 p hp
     rw [parLt_irrefl] at this; cases this
    ·exact e
theorem BestOf.unique {C D : α → Prop} {l m : List α} (h : BestOf key lt C l) (k : BestOf key lt D m) (hcd : ∀ x, C x ↔ D x) : l.length = m.length ∧ ∀ i (h1 : i < l.length) (h2 : i < m.length), key l[i] = key m[i] ∧ lt l[i] m[i] = false ∧ lt m[i] l[i] = false := by
 have hk : l.map key = m.map key := asc_keys h.asc k.asc fun p => ⟨fun ⟨e, he, hp⟩ => by
   obtain ⟨e', he', hp'⟩ := k.all e ((hcd e).1 (h.each e he).1)
   exact ⟨e', he', hp'.trans hp⟩, fun ⟨e, he, hp⟩ => by
   obtain ⟨e', he', hp'⟩ := h.all e ((hcd e).2 (k.each e he).1)
   exact ⟨e', he', hp'.trans hp⟩⟩
 refine ⟨by simpa using congrArg List.length hk, fun i h1 h2 => ?_⟩
 have hki : key l[i] = key m[i] := by
  have := congrArg (·[i]?) hk
  simp only [List.getElem?_map, List.getElem?_eq_getElem h1, List.getElem?_eq_getElem h2, Option.map_some, Option.some.injEq] at this
  exact this
 exact ⟨hki, (k.each m[i] (List.getElem_mem _)).2 l[i] ((hcd _).1 (h.each l[i] (List.getElem_mem _)).1) hki, (h.each l[i] (List.getElem_mem _)).2 m[i] ((hcd _).2 (k.each m[i] (List.getElem_mem _)).1) hki.symm⟩
end
/-! ### Exclusions -/
def mkExc (a b : Res) : Exc := ⟨a.from_, b.from_, a.idn, b.idn⟩
def ExcR (a b : Res) : Prop := a.ttl ≠ b.ttl ∧ a.from_ < b.from_
def ExcC (xs : List Res) (x : Exc) : Prop := ∃ p, IsPart xs p ∧ ∃ a ∈ p, ∃ b ∈ p, wayR a = true ∧ wayR b = true ∧ a.flow = b.flow ∧ ExcR a b ∧ x = mkExc a b
def ExcOf (xs : List Res) (es : List Exc) : Prop := BestOf Exc.pr excB (ExcC xs) es
theorem ExcOf.unique {xs ys : List Res} {l m : List Exc} (h : ExcOf xs l) (k : ExcOf ys m) (hc : ∀ x, ExcC xs x ↔ ExcC ys x) : l = m := by
 obtain ⟨h1, h2⟩ := BestOf.unique h k hc
 apply List.ext_getElem h1
 intro i hi hj
 obtain ⟨e1, e2, e3⟩ := h2 i hi hj
 obtain ⟨e4, e5⟩ := excB_both e2 e3
 generalize l[i] = x at *
 generalize m[i] = y at *
 cases x; cases y
 simp only [Exc.pr, Par.mk.injEq] at e1
 simp only at e4 e5
 obtain ⟨rfl, rfl⟩ := e1
 subst e4; subst e5; rfl
theorem flows_exc {xs : List Res} {gs : List (List Res)} (h : FlowsOf xs gs) (x : Exc) : (∃ g ∈ gs, ∃ a ∈ g, ∃ b ∈ g, ExcR a b ∧ x = mkExc a b) ↔ ExcC xs x := by
 constructor
 ·rintro ⟨g, hg, a, ha, b, hb, h1, h2⟩
  obtain ⟨p, hp, fl, h3⟩ := h.snd g hg
  obtain ⟨a1, a2, a3⟩ := h3 a ha
  obtain ⟨b1, b2, b3⟩ := h3 b hb
  exact ⟨p, hp, a, a1, b, b1, a2, b2, by rw [a3, b3], h1, h2⟩
 ·rintro ⟨p, hp, a, ha, b, hb, wa, wb, hf, h1, h2⟩
  obtain ⟨g, hg, g1, g2⟩ := h.cmp p hp a ha b hb wa wb hf
  exact ⟨g, hg, a, g1, b, g2, h1, h2⟩
end Go.Proofs.YtfeiiadligkamaaGreat


/- Evidence of the link rule, the least of each pair (no program in sight). -/
namespace Go.Proofs.YtfeiiadligkamaaGreat
open Eng Go.Sort
def evB (e f : Evd) : Bool := decide (evCmp e f < 0)
theorem evB_irrefl (e : Evd) : evB e e = false := by
 unfold evB
 rw [decide_eq_false_iff_not, (evCmp_zero e e).2 ⟨rfl, rfl, rfl, rfl⟩]
 omega
theorem evB_neg (e f g : Evd) (h : evB e f = false) (k : evB f g = false) : evB e g = false := by
 unfold evB at *
 rw [decide_eq_false_iff_not] at *
 have h1 := evCmp_neg e f
 have h2 := evCmp_neg f g
 have h3 := evCmp_neg e g
 have := evCmp_trans g f e (by omega) (by omega)
 omega
theorem evB_trans (e f g : Evd) (h : evB e f = true) (k : evB f g = true) : evB e g = true := by
 cases hc : evB e g with
 | true => rfl
 | false =>
  have h1 : evB g f = false := by
   unfold evB at k ⊢
   rw [decide_eq_true_eq] at k
   rw [decide_eq_false_iff_not]
   have := evCmp_neg f g
   omega
  rw [evB_neg _ _ _ hc h1] at h
  cases h
theorem evsLt_swo : SWO evsLt := by
 refine ⟨fun x => evB_irrefl x.e, fun x y z h k => evB_trans _ _ _ h k, fun x y z h k => evB_neg _ _ _ h k⟩
section
variable {α : Type} {key : α → Par} {lt : α → α → Bool}
theorem BestI.cover {C C' : α → Prop} {X : List α} (hn : ∀ x y z, lt x y = false → lt y z = false → lt x z = false) (h : BestI key lt C X) (h1 : ∀ x, C x → C' x) (h2 : ∀ x, C' x → ∃ x', C x' ∧ key x' = key x ∧ lt x x' = false) : BestI key lt C' X := by
 refine ⟨h.nodup, fun e he => ⟨h1 e (h.each e he).1, fun x hx hk => ?_⟩, fun x hx => ?_⟩
 ·obtain ⟨x', hx', hk', hlt⟩ := h2 x hx
  exact hn _ _ _ hlt ((h.each e he).2 x' hx' (hk'.trans hk))
 ·obtain ⟨x', hx', hk', _⟩ := h2 x hx
  obtain ⟨e, he, hk⟩ := h.all x' hx'
  exact ⟨e, he, hk.trans hk'⟩
end
def IdsOf (l ids : List Idn) : Prop := (ids.Pairwise fun x y => idnLt x y = true) ∧ ∀ d, d ∈ ids ↔ d ∈ l
theorem idn_asc_unique : ∀ {l m : List Idn}, (l.Pairwise fun x y => idnLt x y = true) → (m.Pairwise fun x y => idnLt x y = true) → (∀ d, d ∈ l ↔ d ∈ m) → l = m
 | [], [], _, _, _ => rfl
 | [], y :: m, _, _, h => by have := (h y).2 (by simp); cases this
 | x :: l, [], _, _, h => by have := (h x).1 (by simp); cases this
 | x :: l, y :: m, hl, hm, h => by
  have h1 := List.pairwise_cons.1 hl
  have h2 := List.pairwise_cons.1 hm
  have hxy : x = y := by
   rcases List.mem_cons.1 ((h x).1 (by simp)) with e | e
   ·exact e
   ·rcases List.mem_cons.1 ((h y).2 (by simp)) with e' | e'
    ·exact e'.symm
    ·have := idnLt_trans _ _ _ (h2.1 x e) (h1.1 y e')
     rw [idnLt_irrefl] at this; cases this
  subst hxy
  congr 1
  refine idn_asc_unique h1.2 h2.2 fun p => ⟨fun hp => ?_, fun hp => ?_⟩
  ·rcases List.mem_cons.1 ((h p).1 (List.mem_cons_of_mem _ hp)) with e | e
   ·subst e
    have := h1.1 p hp
    rw [idnLt_irrefl] at this; cases this
   ·exact e
  ·rcases List.mem_cons.1 ((h p).2 (List.mem_cons_of_mem _ hp)) with e | e
   ·subst e
    have := h2.1 p hp
    rw [idnLt_irrefl] at this; cases this
   ·exact e
theorem IdsOf.unique {l ids ids' : List Idn} (h : IdsOf l ids) (k : IdsOf l ids') : ids = ids' := idn_asc_unique h.1 k.1 fun d => (h.2 d).trans (k.2 d).symm
def MatE (a b c : Idn) (fr mt : Int) (e : Evd) : Prop := e.kind = 2 ∧ e.a = min fr mt ∧ e.b = max fr mt ∧ IdsOf [a, b, c] e.ids
theorem MatE.pr {a b c : Idn} {fr mt : Int} {e : Evd} (h : MatE a b c fr mt e) : e.pr = ⟨min fr mt, max fr mt⟩ := by
 unfold Evd.pr; rw [h.2.1, h.2.2.1]
theorem ids_last {a b c : Idn} (h1 : idnLt a c = true) (h2 : idnLt b c = true) : ∃ s : List Idn, (∀ d, d ∈ s ↔ d = a ∨ d = b) ∧ (s.Pairwise fun x y => idnLt x y = true) := by
 rcases idnLt_total a b with h | h | h
 ·exact ⟨[a, b], fun d => by simp, by simp [h]⟩
 ·subst h; exact ⟨[a], fun d => by simp, by simp⟩
 ·exact ⟨[b, a], fun d => by simp [or_comm], by simp [h]⟩
theorem cmpIds_app : ∀ (s l m : List Idn), cmpIds (s ++ l) (s ++ m) = cmpIds l m
 | [], l, m => rfl
 | x :: s, l, m => by
  rw [List.cons_append, List.cons_append, cmpIds, if_neg (by rw [idnCmpI_zero.2 rfl]; simp), cmpIds_app s l m]
theorem mat_later {a b c c' : Idn} {fr mt : Int} {e e' : Evd} (h1 : idnLt a c = true) (h2 : idnLt b c = true) (hcc : idnLt c' c = false) (he : MatE a b c fr mt e) (he' : MatE a b c' fr mt e') : evB e' e = false := by
 obtain ⟨s, hs, hsp⟩ := ids_last h1 h2
 have hlt : ∀ x y, idnLt x c = true → (x = y ∨ idnLt x y = true) → True := fun _ _ _ _ => trivial
 have hcc' : ∀ x, idnLt x c = true → idnLt x c' = true := fun x hx => by
  rcases idnLt_total c c' with h | h | h
  ·exact idnLt_trans _ _ _ hx h
  ·rw [← h]; exact hx
  ·rw [hcc] at h; cases h
 have mk : ∀ d, idnLt a d = true → idnLt b d = true → IdsOf [a, b, d] (s ++ [d]) := fun d ha hb => by
  refine ⟨?_, fun x => ?_⟩
  ·rw [List.pairwise_append]
   refine ⟨hsp, by simp, fun x hx y hy => ?_⟩
   rw [List.mem_singleton] at hy
   subst hy
   rcases (hs x).1 hx with rfl | rfl
   ·exact ha
   ·exact hb
  ·rw [List.mem_append, hs x]
   simp [or_assoc]
 have e1 := he.2.2.2.unique (mk c h1 h2)
 have e2 := he'.2.2.2.unique (mk c' (hcc' a h1) (hcc' b h2))
 unfold evB
 rw [decide_eq_false_iff_not, evCmp_lex, he.1, he'.1, he.2.1, he'.2.1, he.2.2.1, he'.2.2.1, ordI_zero.2 rfl, ordI_zero.2 rfl, ordI_zero.2 rfl, e1, e2, cmpIds_app]
 unfold lex3
 simp only [ne_eq, not_true_eq_false, if_false, cmpIds]
 unfold idnLt at hcc
 rw [decide_eq_false_iff_not] at hcc
 split
 ·exact hcc
 ·omega
end Go.Proofs.YtfeiiadligkamaaGreat


/- The groups of one trace, episode and flow, by the evaluator: exclusion.flows. -/
namespace Go.Proofs.YtfeiiadligkamaaGreat
open Go.Sort Eng
structure Fg where
 rs : List Res
 a : Option Addr
 cap : Nat
instance : Inhabited Fg := ⟨⟨[], none, 0⟩⟩
def Fg.row (g : Fg) : Eng.Own := resRow g.a g.rs.length g.cap g.rs.toArray
def fgRd (gs : List Fg) : Nat → Nat → SV := fun i _ => .os 0 (gs.getD i default).a (gs.getD i default).rs.length (gs.getD i default).cap
def fgRow (a : Option Addr) (cap : Nat) (gs : List Fg) : Eng.Own := .row a 23 gs.length cap 1 (fgRd gs)
theorem fg_one (gs : List Fg) (i j : Nat) (_ : j < 1) : oneS (fgRd gs i j) = true := rfl
def fgS (gs : List Fg) : Nat → Nat → SV := fun i _ => .sl (gs.getD i default).a (gs.getD i default).rs.length (gs.getD i default).cap 17 (resRd (gs.getD i default).rs.toArray)
theorem fB_ex : ∃ f : Nat → Nat → Nat, (∀ i k, f i k + 512 ≤ f i (k + 1)) ∧ (∀ i k, k ≤ 1000 → f i k ≤ f (i + 1) 0) ∧ (∀ i k, i ≤ 512 → k ≤ 1000 → f i k ≤ 262656000) := by
 refine ⟨fun i k => 512000 * i + 512 * k, fun i k => ?_, fun i k h => ?_, fun i k h1 h2 => ?_⟩ <;> simp only <;> omega
noncomputable def fB : Nat → Nat → Nat := Classical.choose fB_ex
theorem fB_k {i k n m : Nat} (h : n ≤ fB i k + m) (hm : m ≤ 512) : n ≤ fB i (k + 1) := by
 have := (Classical.choose_spec fB_ex).1 i k
 unfold fB at h ⊢
 omega
theorem fB_i {i k n : Nat} (h : n ≤ fB i k) (hk : k ≤ 1000) : n ≤ fB (i + 1) 0 := Nat.le_trans h ((Classical.choose_spec fB_ex).2.1 i k hk)
theorem fB_le {i k : Nat} (h1 : i ≤ 512) (h2 : k ≤ 1000) : fB i k ≤ 262656000 := (Classical.choose_spec fB_ex).2.2 i k h1 h2
namespace Eng
theorem Sat.toSlot {P : Program} {F : Frm} {n : Nat} {env : List (Nat × SV)} {c : Code} {K : Exit → St → Prop} {g m x : Own} {T : List Own} (h : Sat P F c ⟨n, env, g :: m :: x :: T⟩ K) : Sat P F c ⟨n, env, g :: m :: .gone :: (T ++ [x])⟩ K := by
 refine Sat.reown (fun j => if j = 2 then T.length + 3 else j) (fun j o ho => ?_) (fun i j o o' hij ho ho' _ _ e => ?_) h
 ·match j, ho with
  | 0, ho => exact .inr (by simpa using ho)
  | 1, ho => exact .inr (by simpa using ho)
  | 2, ho =>
   refine .inr ?_
   simp only [if_pos, List.getElem?_cons_succ, List.getElem?_concat_length]
   simpa using ho
  | j + 3, ho =>
   refine .inr ?_
   rw [if_neg (by omega)]
   simp only [List.getElem?_cons_succ] at ho ⊢
   rw [List.getElem?_append_left (List.getElem?_eq_some_iff.1 ho).1]
   exact ho
 ·have hi := (List.getElem?_eq_some_iff.1 ho).1
  have hj := (List.getElem?_eq_some_iff.1 ho').1
  simp only [List.length_cons] at hi hj
  split at e <;> split at e <;> omega
end Eng
set_option maxHeartbeats 2000000 in
set_option maxRecDepth 100000 in
theorem flowsC (F : Frm) (ad : Option Addr) (cap : Nat) (xs : List Res) (hl : xs.length ≤ 512) (hin : ∀ r ∈ xs, RgR r) :
  Contract F Tryz.prog 45 [.sl ad xs.length cap 17 (resRd xs.toArray)] (fun r => ∃ a cap gs, FlowsOf xs (gs.map Fg.rs) ∧ gs.length ≤ 1000000000 ∧ (∀ g ∈ gs, g.rs.length ≤ 1000000000) ∧ r = .sl a gs.length cap 1 (fgS gs)) := by
 refine contract_of Tryz.func45 rfl (by kernel_rfl) ?_
 simp only [Tryz.ntmps45, argEnv]
 (repeat refine Sat.seq ?_)
 (refine Sat.region_k fun k hk => ?_; simp -implicitDefEqProofs only [evr, id, seval, tre_eql, res_one, tre_one, treRow, tre_ro, resRow, res_ro, tl_get, tl_set, ep_one, evn]; refine hk _ ?_; clear hk k; try show Sat _ _ _ _ _)
 (repeat refine Sat.seq ?_)
 (refine Sat.region_k fun k hk => ?_; simp -implicitDefEqProofs only [evr, id, seval, tre_eql, res_one, tre_one, treRow, tre_ro, resRow, res_ro, tl_get, tl_set, ep_one, evn]; refine hk _ ?_; clear hk k; try show Sat _ _ _ _ _)
 (repeat refine Sat.seq ?_)
 (refine Sat.region_k fun k hk => ?_; simp -implicitDefEqProofs only [evr, id, seval, tre_eql, res_one, tre_one, treRow, tre_ro, resRow, res_ro, tl_get, tl_set, ep_one, evn])
 refine wcall_new (tracesC F ad cap xs (by omega)) rfl rfl ?_
 rintro ra ty len rc sz rrd ⟨ta, tc, ts, hts, htl, e⟩
 simp only [treRow, Eng.Own.row.injEq] at e
 obtain ⟨rfl, rfl, rfl, rfl, rfl, rfl⟩ := e
 simp -implicitDefEqProofs only [evr, id, seval, tre_eql, res_one, tre_one, treRow, tre_ro, resRow, res_ro, tl_get, tl_set, ep_one, evn]
 (refine hk _ ?_; clear hk k; try show Sat _ _ _ _ _)
 refine Sat.settle2 17 rfl rfl ?_
 simp -implicitDefEqProofs only [evr, id, seval, tre_eql, res_one, tre_one, treRow, tre_ro, resRow, res_ro, tl_get, tl_set, ep_one, evn]
 refine Sat.reown (own' := [.gone, .gone, .gone]) id (fun i o ho => .inl (by
  match i, ho with
  | 0, ho => simpa using ho.symm
  | 1, ho => simpa using ho.symm
  | 2, ho => simpa using ho.symm
  | i + 3, ho => simp at ho)) (fun i j _ _ hij _ _ _ _ => hij) ?_
 refine Sat.nilAt 1 23 1 (fgRd []) rfl ?_
 refine Sat.redo 3 (.os 1 none 0 0) rfl rfl (fun _ _ => trivial) ?_
 simp only [List.set_cons_succ, List.set_cons_zero]
 (repeat refine Sat.seq ?_)
 refine Sat.block ?_
 refine Sat.loop (ι := Nat × List Fg × Option Addr × Nat) (fun z => ⟨84, [(19, .i .i64 z.1), (3, .os 1 z.2.2.1 z.2.1.length z.2.2.2), (18, .i .i64 ts.length), (17, .sl ra ts.length rc 3 (treRd ts.toArray)), (0, .sl ad xs.length cap 17 (resRd xs.toArray))],
   .gone :: fgRow z.2.2.1 z.2.2.2 z.2.1 :: .gone :: z.2.1.map Fg.row⟩)
  (fun z => z.1 ≤ ts.length ∧ FlowsI xs (fun p => ∃ t ∈ ts.take z.1, IsPartT xs t p) (z.2.1.map Fg.rs) ∧ z.2.1.length ≤ fB z.1 0 ∧ ∀ g ∈ z.2.1, g.rs.length ≤ fB z.1 0) (fun z => ts.length - z.1) (0, [], none, 0)
  ⟨Nat.zero_le _, ⟨fun g hg => (by cases hg), fun p hp => by obtain ⟨t, ht, _⟩ := hp; cases ht⟩, Nat.zero_le _, fun g hg => (by cases hg)⟩ (by simp only [fgRow]; simp -implicitDefEqProofs only [evr, id, seval, tre_eql, res_one, tre_one, treRow, tre_ro, resRow, res_ro, tl_get, tl_set, ep_one, evl, evn]; try rfl) ?_
 rintro ⟨i, gs, oa, oc⟩ ⟨hi, hF, hgl, hgr⟩
 simp only at hi hF hgl hgr ⊢
 obtain ⟨T, hTd⟩ : ∃ T, T = gs.map Fg.row := ⟨_, rfl⟩
 rw [← hTd]
 have hTl : T.length = gs.length := by rw [hTd, List.length_map]
 simp only [fgRow]
 (repeat refine Sat.seq ?_)
 (refine Sat.region_k fun k hk => ?_; simp -implicitDefEqProofs only [evr, id, seval, tre_eql, res_one, tre_one, treRow, tre_ro, resRow, res_ro, tl_get, tl_set, ep_one, evn]; refine hk _ ?_; clear hk k; try show Sat _ _ _ _ _)
 (repeat refine Sat.seq ?_)
 refine Sat.cond_b rfl (fun h => ?_) (fun h => ?_)
 ·have h1 : i < ts.length := by simp only [decide_eq_true_eq] at h; omega
  have e1 : IntKind.i64.wrap ((i : Int) + 1) = ((i + 1 : Nat) : Int) := by rw [w64 (by omega)]; omega
  refine Sat.skip ?_
  simp only [thenK]
  (repeat refine Sat.seq ?_)
  refine Sat.block ?_
  (repeat refine Sat.seq ?_)
  (refine Sat.region_k fun k hk => ?_; simp -implicitDefEqProofs only [evr, id, seval, tre_eql, res_one, tre_one, treRow, tre_ro, resRow, res_ro, tl_get, tl_set, ep_one, evn])
  refine ⟨by omega, fun b5 => ?_⟩
  (refine hk _ ?_; clear hk k; try show Sat _ _ _ _ _)
  refine Sat.settleLast (.gone :: .row oa 23 gs.length oc 1 (fgRd gs) :: .gone :: T) 5 rfl ?_
  try simp only [List.length_cons, List.length_nil]
  obtain ⟨t, ht⟩ : ∃ t, t = ts.toArray[i]! := ⟨_, rfl⟩
  (repeat refine Sat.seq ?_)
  (refine Sat.region_k fun k hk => ?_; simp -implicitDefEqProofs only [evr, id, seval, tre_eql, res_one, tre_one, treRow, tre_ro, resRow, res_ro, tl_get, tl_set, ep_one, evn])
  refine wcall_new (pthOfC F ad cap xs t (by omega) hin) rfl (by rw [ht]; rfl) ?_
  rintro ra1 ty1 len1 rc1 sz1 rrd1 ⟨za, zc, ys, ho, hyl, e⟩
  obtain ⟨zs, hzs⟩ : ∃ zs, zs = ofT ys t := ⟨_, rfl⟩
  have hzs2 : ys.filter (isTre t) = zs := hzs.symm
  rw [hzs2] at e
  simp only [resRow, Eng.Own.row.injEq] at e
  obtain ⟨rfl, rfl, rfl, rfl, rfl, rfl⟩ := e
  simp -implicitDefEqProofs only [evr, id, seval, tre_eql, res_one, tre_one, treRow, tre_ro, resRow, res_ro, tl_get, tl_set, ep_one, evn]
  (refine hk _ ?_; clear hk k; try show Sat _ _ _ _ _)
  refine Sat.settleLastRow (.gone :: .row oa 23 gs.length oc 1 (fgRd gs) :: .gone :: T) 6 rfl ?_
  try simp only [List.length_cons, List.length_nil]
  have hzl : zs.length ≤ 512 := by rw [hzs]; unfold ofT; have := List.length_filter_le (isTre t) ys; omega
  have hzv : ∀ r ∈ zs, r ∈ xs ∧ validR r = true ∧ r.tre = t := fun r hr => by
   rw [hzs] at hr
   obtain ⟨h1, h2⟩ := List.mem_filter.1 hr
   obtain ⟨h3, h4⟩ := (ho.2 r).1 h1
   unfold isTre at h2
   exact ⟨h3, h4, of_decide_eq_true h2⟩
  have hzasc : Asc zs := by rw [hzs]; exact ho.1.filter _
  (repeat refine Sat.seq ?_)
  (refine Sat.region_k fun k hk => ?_; simp -implicitDefEqProofs only [evr, id, seval, tre_eql, res_one, tre_one, treRow, tre_ro, resRow, res_ro, tl_get, tl_set, ep_one, evn])
  refine wcall_slice (cutC F ra1 rc1 zs (by omega) (fun r hr => hin r (hzv r hr).1)) rfl rfl ?_
  rintro _ ⟨ca, cc, l, e, hcr, hll, rfl⟩
  have hcut : cutsOf zs l := by
   rcases hcr with ⟨_, _, x, hx, hv⟩ | ⟨_, ys', ho', hcr⟩
   ·rw [(hzv x hx).2.1] at hv; cases hv
   ·obtain rfl := (OrdOf.self hzasc fun r hr => (hzv r hr).2.1).unique ho'
    rcases hcr with ⟨_, _, h9⟩ | ⟨_, _, _, h9⟩ | ⟨_, _, _, h9⟩
    ·omega
    ·exact absurd (fun r hr s hs => by rw [(hzv r hr).2.2, (hzv s hs).2.2]) h9
    ·exact h9
  simp only [tupL, evr, id, seval, tre_eql, res_one, tre_one, treRow, tre_ro, List.append_nil, Int.toNat_zero, Nat.sub_self, Int.reduceToNat, resRow, res_ro, tl_get, tl_set, ep_one]
  (refine hk _ ?_; clear hk k; try show Sat _ _ _ _ _)
  (repeat refine Sat.seq ?_)
  (refine Sat.region_k fun k hk => ?_; simp -implicitDefEqProofs only [evr, id, seval, tre_eql, res_one, tre_one, treRow, tre_ro, resRow, res_ro, tl_get, tl_set, ep_one, evn]; refine hk _ ?_; clear hk k; try show Sat _ _ _ _ _)
  (repeat refine Sat.seq ?_)
  refine Sat.block ?_
  refine Sat.loop (ι := Nat × List Fg × Option Addr × Nat) (fun z => ⟨84, [(33, .i .i64 z.1), (3, .os 1 z.2.2.1 z.2.1.length z.2.2.2), (32, .i .i64 l.length), (31, .sl ca l.length cc 2 (epRd l)), (6, .sl ra1 zs.length rc1 17 (resRd zs.toArray)), (19, .i .i64 i), (18, .i .i64 ts.length), (17, .sl ra ts.length rc 3 (treRd ts.toArray)), (0, .sl ad xs.length cap 17 (resRd xs.toArray))],
    .gone :: fgRow z.2.2.1 z.2.2.2 z.2.1 :: .gone :: z.2.1.map Fg.row⟩)
   (fun z => z.1 ≤ l.length ∧ FlowsI xs (fun p => (∃ t ∈ ts.take i, IsPartT xs t p) ∨ ∃ c ∈ l.take z.1, p = cutL zs c) (z.2.1.map Fg.rs) ∧ z.2.1.length ≤ fB i z.1 ∧ ∀ g ∈ z.2.1, g.rs.length ≤ fB i z.1) (fun z => l.length - z.1) (0, gs, oa, oc)
   ⟨Nat.zero_le _, hF.mono (fun p hp => hp.elim id fun ⟨c, hc, _⟩ => by cases hc), hgl, hgr⟩ (by simp only [fgRow]; rw [← hTd]; simp -implicitDefEqProofs only [evr, id, seval, tre_eql, res_one, tre_one, treRow, tre_ro, resRow, res_ro, tl_get, tl_set, ep_one, evl, evn]; try exact ownLe_refl _) ?_
  clear hF hgl hgr hTd hTl T
  rintro ⟨k, gs, oa, oc⟩ ⟨hk2, hF, hgl, hgr⟩
  simp only at hk2 hF hgl hgr ⊢
  obtain ⟨T, hTd⟩ : ∃ T, T = gs.map Fg.row := ⟨_, rfl⟩
  rw [← hTd]
  have hTl : T.length = gs.length := by rw [hTd, List.length_map]
  simp only [fgRow]
  (repeat refine Sat.seq ?_)
  (refine Sat.region_k fun k hk => ?_; simp -implicitDefEqProofs only [evr, id, seval, tre_eql, res_one, tre_one, treRow, tre_ro, resRow, res_ro, tl_get, tl_set, ep_one, evn]; refine hk _ ?_; clear hk k; try show Sat _ _ _ _ _)
  (repeat refine Sat.seq ?_)
  refine Sat.cond_b rfl (fun h => ?_) (fun h => ?_)
  ·have h2 : k < l.length := by simp only [decide_eq_true_eq] at h; omega
   have e2 : IntKind.i64.wrap ((k : Int) + 1) = ((k + 1 : Nat) : Int) := by rw [w64 (by omega)]; omega
   refine Sat.skip ?_
   simp only [thenK]
   (repeat refine Sat.seq ?_)
   refine Sat.block ?_
   (repeat refine Sat.seq ?_)
   (refine Sat.region_k fun k hk => ?_; simp -implicitDefEqProofs only [evr, id, seval, tre_eql, res_one, tre_one, treRow, tre_ro, resRow, res_ro, tl_get, tl_set, ep_one, evn])
   refine ⟨by omega, fun b10 => ?_⟩
   (refine hk _ ?_; clear hk k; try show Sat _ _ _ _ _)
   refine Sat.settleLast (.gone :: .row oa 23 gs.length oc 1 (fgRd gs) :: .gone :: T) 10 rfl ?_
   try simp only [List.length_cons, List.length_nil]
   obtain ⟨c, hc⟩ : ∃ c, c = l.getD k (0, 0) := ⟨_, rfl⟩
   have hcl : c ∈ l := by rw [hc, List.getD_eq_getElem?_getD, List.getElem?_eq_getElem h2]; exact List.getElem_mem h2
   obtain ⟨hc1, hc2⟩ := hcut.bounds hcl
   have q0 : epRd l k 0 = .i .i64 (c.1 : Nat) := by rw [hc]; rfl
   have q1 : epRd l k 1 = .i .i64 (c.2 : Nat) := by rw [hc]; rfl
   simp only [q0, q1]
   (repeat refine Sat.seq ?_)
   (refine Sat.region_k fun k hk => ?_; simp -implicitDefEqProofs only [evr, id, seval, tre_eql, res_one, tre_one, treRow, tre_ro, resRow, res_ro, tl_get, tl_set, ep_one, evn])
   refine fun mb => ?_
   (refine hk _ ?_; clear hk k; try show Sat _ _ _ _ _)
   refine Sat.toSlot ?_
   refine Sat.redo 11 (.mp 2 mb) rfl rfl (fun _ _ => trivial) ?_
   (repeat refine Sat.seq ?_)
   (refine Sat.region_k fun k hk => ?_; simp -implicitDefEqProofs only [evr, id, seval, tre_eql, res_one, tre_one, treRow, tre_ro, resRow, res_ro, tl_get, tl_set, ep_one, evn])
   refine ⟨by omega, ?_⟩
   (refine hk _ ?_; clear hk k; try show Sat _ _ _ _ _)
   obtain ⟨p, hp⟩ : ∃ p, p = cutL zs c := ⟨_, rfl⟩
   have hpt : IsPart xs p := ⟨t, by rw [hp, hzs]; exact (IsPartT.iff ho (by rw [← hzs]; exact hcut)).2 ⟨c, hcl, rfl⟩⟩
   obtain ⟨hpl, hpg⟩ := cut_get (Nat.le_of_lt hc1) hc2
   rw [← hp] at hpl hpg
   obtain ⟨pa, hpa⟩ : ∃ pa, pa = (if rc1 = c.fst then ra1 else Option.map (fun x => x.add (c.fst * 17)) ra1) := ⟨_, rfl⟩
   rw [← hpa]
   simp only [← hpl]
   (repeat refine Sat.seq ?_)
   refine Sat.block ?_
   refine Sat.loop (ι := Nat × List Fg × (Option Addr × Nat) × (List Int → Option Int)) (fun z => ⟨84, [(45, .i .i64 z.1), (11, .mp 2 mb), (3, .os 1 z.2.2.1.1 z.2.1.length z.2.2.1.2), (44, .i .i64 p.length), (43, .sl pa p.length (rc1 - c.1) 17 fun i j => resRd zs.toArray (c.1 + i) j), (33, .i .i64 k), (32, .i .i64 l.length), (31, .sl ca l.length cc 2 (epRd l)), (6, .sl ra1 zs.length rc1 17 (resRd zs.toArray)), (19, .i .i64 i), (18, .i .i64 ts.length), (17, .sl ra ts.length rc 3 (treRd ts.toArray)), (0, .sl ad xs.length cap 17 (resRd xs.toArray))],
     .gone :: fgRow z.2.2.1.1 z.2.2.1.2 z.2.1 :: .mp mb true [.i64] .i64 z.2.2.2 :: z.2.1.map Fg.row⟩)
    (fun z => z.1 ≤ p.length ∧ FlowsJ xs (fun p => (∃ t ∈ ts.take i, IsPartT xs t p) ∨ ∃ c ∈ l.take k, p = cutL zs c) p (p.take z.1) z.2.2.2 (z.2.1.map Fg.rs) ∧ z.2.1.length ≤ fB i k + z.1 ∧ ∀ g ∈ z.2.1, g.rs.length ≤ fB i k + z.1) (fun z => p.length - z.1) (0, gs, (oa, oc), fun _ => none)
    ⟨Nat.zero_le _, hF.start p, Nat.le_trans hgl (Nat.le_add_right _ _), fun g hg => Nat.le_trans (hgr g hg) (Nat.le_add_right _ _)⟩ (by simp only [fgRow]; rw [← hTd]; simp -implicitDefEqProofs only [evr, id, seval, tre_eql, res_one, tre_one, treRow, tre_ro, resRow, res_ro, tl_get, tl_set, ep_one, evl, evn]; exact ownLe_refl _) ?_
   clear hF hgl hgr hTd hTl T
   rintro ⟨j, gs, ⟨oa, oc⟩, f⟩ ⟨hj, hF, hgl, hgr⟩
   simp only at hj hF hgl hgr ⊢
   obtain ⟨T, hTd⟩ : ∃ T, T = gs.map Fg.row := ⟨_, rfl⟩
   rw [← hTd]
   have hTl : T.length = gs.length := by rw [hTd, List.length_map]
   simp only [fgRow]
   (repeat refine Sat.seq ?_)
   (refine Sat.region_k fun k hk => ?_; simp -implicitDefEqProofs only [evr, id, seval, tre_eql, res_one, tre_one, treRow, tre_ro, resRow, res_ro, tl_get, tl_set, ep_one, evn]; refine hk _ ?_; clear hk k; try show Sat _ _ _ _ _)
   (repeat refine Sat.seq ?_)
   refine Sat.cond_b rfl (fun h => ?_) (fun h => ?_)
   ·have h3 : j < p.length := by simp only [decide_eq_true_eq] at h; omega
    have e3 : IntKind.i64.wrap ((j : Int) + 1) = ((j + 1 : Nat) : Int) := by rw [w64 (by omega)]; omega
    obtain ⟨r, hr⟩ : ∃ r, r = zs.toArray[c.1 + j]! := ⟨_, rfl⟩
    have hrp : p[j]'h3 = r := by
     have h9 := hpg j (by omega)
     rw [List.getElem?_eq_getElem h3, List.getElem?_eq_getElem (show c.1 + j < zs.length by omega)] at h9
     rw [hr, getB (show c.1 + j < zs.length by omega)]
     simpa using h9
    have htk : p.take (j + 1) = p.take j ++ [r] := by rw [List.take_succ_eq_append_getElem h3, hrp]
    have hrm : r ∈ p := by rw [← hrp]; exact List.getElem_mem h3
    refine Sat.skip ?_
    simp only [thenK]
    (repeat refine Sat.seq ?_)
    refine Sat.block ?_
    (repeat refine Sat.seq ?_)
    (refine Sat.region_k fun k hk => ?_; simp -implicitDefEqProofs only [evr, id, seval, tre_eql, res_one, tre_one, treRow, tre_ro, resRow, res_ro, tl_get, tl_set, ep_one, evn])
    refine ⟨by omega, fun b13 => ?_⟩
    (refine hk _ ?_; clear hk k; try show Sat _ _ _ _ _)
    refine Sat.settleLast (.gone :: .row oa 23 gs.length oc 1 (fgRd gs) :: .mp mb true [.i64] .i64 f :: T) 13 rfl ?_
    try simp only [List.length_cons, List.length_nil]
    (repeat refine Sat.seq ?_)
    (refine Sat.region_k fun k hk => ?_; simp -implicitDefEqProofs only [evr, id, seval, tre_eql, res_one, tre_one, treRow, tre_ro, resRow, res_ro, tl_get, tl_set, ep_one, evn])
    refine wcall_plain (wayC F zs.toArray[c.1 + j]!) rfl (by rintro _ rfl; exact ok_plain rfl) ?_
    rintro _ rfl
    rw [← hr]
    simp -implicitDefEqProofs only [evr, id, seval, tre_eql, res_one, tre_one, treRow, tre_ro, resRow, res_ro, tl_get, tl_set, ep_one, evn]
    (refine hk _ ?_; clear hk k; try show Sat _ _ _ _ _)
    (repeat refine Sat.seq ?_)
    refine Sat.cond_b rfl (fun h4 => ?_) (fun h4 => ?_)
    ·have hw : wayR r = false := by simpa using h4
     refine Sat.exit ?_
     simp only [thenK, blockK, reduceIte]
     refine Sat.region_k fun kk hk => ?_
     simp -implicitDefEqProofs only [evr, id, seval, tre_eql, res_one, tre_one, treRow, tre_ro, resRow, res_ro, tl_get, tl_set, ep_one, e3, evn]
     refine hk _ ?_
     simp only [thenK, blockK]
     refine ⟨(j + 1, gs, (oa, oc), f), ⟨by simp only; omega, by rw [htk]; exact hF.skip hw, Nat.le_succ_of_le hgl, fun g hg => Nat.le_succ_of_le (hgr g hg)⟩, by simp only; omega, ?_⟩
     simp only [fgRow]
     rw [← hTd]
     simp -implicitDefEqProofs only [evr, id, seval, tre_eql, res_one, tre_one, treRow, tre_ro, resRow, res_ro, tl_get, tl_set, ep_one, evl, evn]
     exact ownLe_refl _
    have hw : wayR r = true := by simpa using h4
    refine Sat.skip ?_
    simp only [thenK]
    (repeat refine Sat.seq ?_)
    have q6 : resRd zs.toArray (c.1 + j) 6 = .i .i64 r.flow := by rw [hr]; rfl
    obtain ⟨el, hel⟩ : ∃ el, el = SV.el ⟨b13, 0, none⟩ 17 fun j => (Res.cs r).getD j default := ⟨_, rfl⟩
    refine Sat.atF (ι := Option Int) (fun z => ⟨84, [(14, .i .i64 (z.getD 0)), (15, .b z.isSome), (13, el), (45, .i .i64 j), (11, .mp 2 mb), (3, .os 1 oa gs.length oc), (44, .i .i64 p.length), (43, .sl pa p.length (rc1 - c.1) 17 fun i j => resRd zs.toArray (c.1 + i) j), (33, .i .i64 k), (32, .i .i64 l.length), (31, .sl ca l.length cc 2 (epRd l)), (6, .sl ra1 zs.length rc1 17 (resRd zs.toArray)), (19, .i .i64 i), (18, .i .i64 ts.length), (17, .sl ra ts.length rc 3 (treRd ts.toArray)), (0, .sl ad xs.length cap 17 (resRd xs.toArray))],
     .gone :: .row oa 23 gs.length oc 1 (fgRd gs) :: .mp mb true [.i64] .i64 f :: T⟩) (fun z => f [r.flow] = z) ?_ ?_
    ·(refine Sat.region_k fun k hk => ?_; simp -implicitDefEqProofs only [evr, id, seval, tre_eql, res_one, tre_one, treRow, tre_ro, resRow, res_ro, tl_get, tl_set, ep_one, evn])
     simp only [q6, evr, id, seval, tre_eql, res_one, tre_one, treRow, tre_ro, List.append_nil, Int.toNat_zero, Nat.sub_self, Int.reduceToNat, resRow, res_ro, tl_get, tl_set, ep_one]
     refine ⟨fun v hv => hk _ ?_, fun hv => hk _ ?_⟩
     ·simp only [thenK]
      refine ⟨some v, hv, ?_⟩
      simp only [Option.isSome_some, Option.getD_some]
      rw [hel]
      simp -implicitDefEqProofs only [evr, id, seval, tre_eql, res_one, tre_one, treRow, tre_ro, resRow, res_ro, tl_get, tl_set, ep_one, evl, evn]
      exact ⟨by rw [hr]; rfl, ownLe_refl _⟩
     ·simp only [thenK]
      refine ⟨none, hv, ?_⟩
      simp only [Option.isSome_none, Option.getD_none]
      rw [hel]
      simp -implicitDefEqProofs only [evr, id, seval, tre_eql, res_one, tre_one, treRow, tre_ro, resRow, res_ro, tl_get, tl_set, ep_one, evl, evn]
      exact ⟨by rw [hr]; rfl, ownLe_refl _⟩
    intro z hz
    simp only [thenK]
    (repeat refine Sat.seq ?_)
    (refine Sat.region_k fun k hk => ?_; simp -implicitDefEqProofs only [evr, id, seval, tre_eql, res_one, tre_one, treRow, tre_ro, resRow, res_ro, tl_get, tl_set, ep_one, evn]; refine hk _ ?_; clear hk k; try show Sat _ _ _ _ _)
    (repeat refine Sat.seq ?_)
    have hT2 : mapT Tryz.prog 131 = some (true, [.i64], .i64) := by kernel_rfl
    refine Sat.joinK (ι := Nat × List Fg × (Option Addr × Nat) × (List Int → Option Int)) (fun w => ⟨84, [(14, .i .i64 w.1), (13, el), (45, .i .i64 j), (11, .mp 2 mb), (3, .os 1 w.2.2.1.1 w.2.1.length w.2.2.1.2), (44, .i .i64 p.length), (43, .sl pa p.length (rc1 - c.1) 17 fun i j => resRd zs.toArray (c.1 + i) j), (33, .i .i64 k), (32, .i .i64 l.length), (31, .sl ca l.length cc 2 (epRd l)), (6, .sl ra1 zs.length rc1 17 (resRd zs.toArray)), (19, .i .i64 i), (18, .i .i64 ts.length), (17, .sl ra ts.length rc 3 (treRd ts.toArray)), (0, .sl ad xs.length cap 17 (resRd xs.toArray))],
     .gone :: .row w.2.2.1.1 23 w.2.1.length w.2.2.1.2 1 (fgRd w.2.1) :: .mp mb true [.i64] .i64 w.2.2.2 :: w.2.1.map Fg.row⟩)
     (fun w => w.1 < w.2.1.length ∧ (∀ a2 c2, FlowsJ xs (fun p => (∃ t ∈ ts.take i, IsPartT xs t p) ∨ ∃ c ∈ l.take k, p = cutL zs c) p (p.take (j + 1)) w.2.2.2 ((w.2.1.set w.1 ⟨(w.2.1.getD w.1 default).rs ++ [r], a2, c2⟩).map Fg.rs)) ∧ w.2.1.length ≤ fB i k + (j + 1) ∧ ∀ g ∈ w.2.1, g.rs.length ≤ fB i k + j) (fun hrest => ?_) ?_
    ·refine Sat.cond_b rfl (fun h5 => ?_) (fun h5 => ?_)
     ·have hzn : f [r.flow] = none := by rw [hz]; simpa using h5
      have hzn0 : z = none := by simpa using h5
      subst hzn0
      have hb9 := fB_le (i := i) (k := k) (by omega) (by omega)
      (repeat refine Sat.seq ?_)
      (refine Sat.region_k fun k hk => ?_; simp -implicitDefEqProofs only [evr, id, seval, tre_eql, res_one, tre_one, treRow, tre_ro, resRow, res_ro, tl_get, tl_set, ep_one, evn]; refine hk _ ?_; clear hk k; try show Sat _ _ _ _ _)
      (repeat refine Sat.seq ?_)
      rw [hel]
      simp only [Res.cs]
      (refine Sat.region_k fun k hk => ?_; simp -implicitDefEqProofs only [evr, id, seval, tre_eql, res_one, tre_one, treRow, tre_ro, resRow, res_ro, tl_get, tl_set, ep_one, evn])
      (refine hk _ ?_; clear hk k; try show Sat _ _ _ _ _)
      (refine Sat.region_k fun k hk => ?_; simp -implicitDefEqProofs only [evr, id, seval, tre_eql, res_one, tre_one, treRow, tre_ro, resRow, res_ro, tl_get, tl_set, ep_one, evn])
      refine fun bl => ⟨⟨by unfold maxLen; omega, by omega⟩, fun a3 c3 => hk _ ?_⟩
      clear hk k
      simp only [thenK, blockK]
      refine Sat.cutOwn (.gone :: .row a3 23 (gs.length + 1) c3 1 (rdCat gs.length (fgRd gs) (rdL [SV.sl none 0 0 0 fun x x_1 => SV.v undef] 1)) :: .mp mb true [.i64] .i64 (fPut f [r.flow] gs.length) :: T) ?_
      obtain ⟨gs2, hgs2⟩ : ∃ gs2 : List Fg, gs2 = gs ++ [⟨[], none, 0⟩] := ⟨_, rfl⟩
      have hg2l : gs2.length = gs.length + 1 := by rw [hgs2, List.length_append]; rfl
      have hg2o : ∀ q, q < gs.length → gs2.getD q default = gs.getD q default := fun q hq => by
       rw [hgs2, List.getD_eq_getElem?_getD, List.getElem?_append_left hq, List.getD_eq_getElem?_getD]
      have hg2n : gs2.getD gs.length default = ⟨[], none, 0⟩ := by
       rw [hgs2, List.getD_eq_getElem?_getD, List.getElem?_concat_length]; rfl
      refine Sat.reread 1 (fgRd gs2) rfl (fun q w hq hw2 => ?_) ?_
      ·obtain rfl : w = 0 := by omega
       by_cases h9 : q < gs.length
       ·have e9 : rdCat gs.length (fgRd gs) (rdL [SV.sl none 0 0 0 fun x x_1 => SV.v undef] 1) q 0 = fgRd gs2 q 0 := by
         unfold rdCat fgRd; rw [if_pos h9, hg2o q h9]
        rw [e9]
        exact sim_refl _
       ·obtain rfl : q = gs.length := by omega
        have e9 : rdCat gs.length (fgRd gs) (rdL [SV.sl none 0 0 0 fun x x_1 => SV.v undef] 1) gs.length 0 = SV.sl none 0 0 0 fun x x_1 => SV.v undef := by
         unfold rdCat; rw [if_neg (Nat.lt_irrefl _), Nat.sub_self]; rfl
        have e8 : fgRd gs2 gs.length 0 = .os 0 none 0 0 := by unfold fgRd; rw [hg2n]; rfl
        rw [e9, e8]
        exact ⟨rfl, fun _ _ _ => trivial⟩
      refine Sat.nilAt 0 62 17 (resRd #[]) rfl ?_
      simp only [List.set_cons_succ, List.set_cons_zero]
      refine Sat.pushNew (T := .mp mb true [.i64] .i64 (fPut f [r.flow] gs.length) :: T) ?_
      refine (hrest (gs.length, gs2, (a3, c3), fPut f [r.flow] gs.length) ⟨by simp only; omega, fun a2 c2 => ?_, by simp only; omega, fun g hg => ?_⟩).le ?_
      ·have h9 := hF.miss hpt hrm hw hzn
       rw [List.length_map] at h9
       have e9 : (gs2.set gs.length ⟨(gs2.getD gs.length default).rs ++ [r], a2, c2⟩).map Fg.rs = gs.map Fg.rs ++ [[r]] := by
        rw [hg2n, hgs2, List.set_append_right _ _ (Nat.le_refl _), Nat.sub_self, List.map_append]
        rfl
       simp only
       rw [htk, e9]
       exact h9
      ·simp only at hg
       rw [hgs2] at hg
       rcases List.mem_append.1 hg with hg | hg
       ·exact hgr g hg
       ·rw [List.mem_singleton] at hg; subst hg; exact Nat.zero_le _
      ·have e9 : gs2.map Fg.row = T ++ [Fg.row ⟨[], none, 0⟩] := by rw [hgs2, List.map_append, ← hTd]; rfl
       simp only [List.cons_append]
       rw [e9, hg2l]
       simp -implicitDefEqProofs only [evr, id, seval, tre_eql, res_one, tre_one, treRow, tre_ro, resRow, res_ro, tl_get, tl_set, ep_one, evl, evn]
       exact ⟨by rw [hel]; rfl, ownLe_refl _⟩
     ·obtain ⟨v, rfl⟩ : ∃ v, z = some v := by
       cases z with
       | none => simp at h5
       | some v => exact ⟨v, rfl⟩
      obtain ⟨n, rfl, hn, _⟩ := hF.idx _ _ hz
      rw [List.length_map] at hn
      refine Sat.skip ?_
      simp only [thenK, Option.getD_some]
      refine (hrest (n, gs, (oa, oc), f) ⟨hn, fun a2 c2 => ?_, Nat.le_succ_of_le hgl, hgr⟩).le ?_
      ·have h9 := (hF.hit hpt hrm hw hz).2
       rw [htk, List.map_set]
       have e9 : (gs.map Fg.rs).getD n [] = (gs.getD n default).rs := by
        rw [List.getD_eq_getElem?_getD, List.getElem?_map, List.getD_eq_getElem?_getD, List.getElem?_eq_getElem hn]; rfl
       rw [e9] at h9
       exact h9
      ·simp only
       rw [← hTd]
       simp -implicitDefEqProofs only [evr, id, seval, tre_eql, res_one, tre_one, treRow, tre_ro, resRow, res_ro, tl_get, tl_set, ep_one, evl, evn]
       exact ownLe_refl _
    clear hF hgl hgr hTd hTl T
    rintro ⟨n, gs, ⟨oa, oc⟩, f⟩ ⟨hn, hF, hgl, hgr⟩
    simp only at hn hF hgl hgr ⊢
    obtain ⟨T, hTd⟩ : ∃ T, T = gs.map Fg.row := ⟨_, rfl⟩
    rw [← hTd]
    have hTl : T.length = gs.length := by rw [hTd, List.length_map]
    rw [hel]
    simp only [Res.cs]
    obtain ⟨g, hg⟩ : ∃ g, g = gs.getD n default := ⟨_, rfl⟩
    have hgm : g ∈ gs := by rw [hg, List.getD_eq_getElem?_getD, List.getElem?_eq_getElem hn]; exact List.getElem_mem hn
    have hgle := hgr g hgm
    have hb9 := fB_le (i := i) (k := k) (by omega) (by omega)
    have hTn : (Eng.Own.mp mb true [IntKind.i64] .i64 f :: T)[n + 1]? = some g.row := by
     rw [List.getElem?_cons_succ, hTd, List.getElem?_map, List.getElem?_eq_getElem hn, hg, List.getD_eq_getElem?_getD, List.getElem?_eq_getElem hn]; rfl
    refine Sat.pull (n + 1) hTn ?_
    simp only [List.set_cons_succ]
    obtain ⟨T1, hT1⟩ : ∃ T1, T1 = T.set n Eng.Own.gone := ⟨_, rfl⟩
    rw [← hT1]
    simp only [Fg.row]
    have q7 : fgRd gs n 0 = .os 0 g.a g.rs.length g.cap := by rw [hg]; rfl
    (refine Sat.region_tree (.keep [0, 1, 2, 3, 4, 5, 6] [7] (.one 7 (.one 8 (.one 9 (.one 10 .done))))) (by kernel_rfl) (by kernel_rfl) (fun _ _ h => h) fun k hk => ?_; simp only [WOT, List.map_cons, List.map_nil, List.getD_cons_zero, List.getD_cons_succ]; simp -implicitDefEqProofs only [evr, id, seval, tre_eql, res_one, tre_one, treRow, tre_ro, resRow, res_ro, tl_get, tl_set, ep_one, WOT, evn])
    refine ⟨by omega, by omega, fun bs => ⟨by rw [List.take_left], ?_⟩⟩
    simp only [q7, evr, id, seval, tre_eql, res_one, tre_one, treRow, tre_ro, List.append_nil, Int.toNat_zero, Nat.sub_self, Int.reduceToNat, resRow, res_ro, tl_get, tl_set, ep_one]
    refine ⟨⟨by unfold maxLen; omega, by omega⟩, fun a2 c2 => ⟨by omega, hn, hk _ ?_⟩⟩
    clear hk k
    simp only [thenK, blockK]
    refine Sat.cutOwn (.row a2 62 (g.rs.length + 1) c2 17 (rdCat g.rs.length (resRd g.rs.toArray) (rdL (Res.cs r) 17)) :: .row oa 23 gs.length oc 1 (rdSet (fgRd gs) n 0 [SV.os 0 a2 (g.rs.length + 1) c2]) :: .mp mb true [.i64] .i64 f :: T1) ?_
    obtain ⟨g2, hg2⟩ : ∃ g2 : Fg, g2 = ⟨g.rs ++ [r], a2, c2⟩ := ⟨_, rfl⟩
    have hJ := hF a2 c2
    rw [← hg, ← hg2] at hJ
    refine Sat.leOwn (own' := g2.row :: .row oa 23 gs.length oc 1 (rdSet (fgRd gs) n 0 [SV.os 0 a2 (g.rs.length + 1) c2]) :: .mp mb true [.i64] .i64 f :: T1) ⟨by
     subst hg2
     exact ⟨rfl, rfl, by simp, rfl, rfl, by
      exact res_app rfl⟩, own_refl _, own_refl _, ownLe_refl _⟩ ?_
    refine Sat.reread 1 (fgRd (gs.set n g2)) rfl (fun q w hq hw2 => ?_) ?_
    ·obtain rfl : w = 0 := by omega
     unfold rdSet fgRd
     by_cases h9 : q = n
     ·subst h9
      rw [getD_set_self hn, if_pos (by simp), hg2]
      simp only [List.length_append, List.length_singleton]
      exact sim_refl _
     ·rw [getD_set_ne (Ne.symm h9), if_neg (fun h8 => h9 h8.1)]
      exact sim_refl _
    simp only [List.set_cons_succ, List.set_cons_zero]
    refine Sat.push (T := .mp mb true [.i64] .i64 f :: T1) (n + 1) (by rw [List.getElem?_cons_succ, hT1, List.getElem?_set_self (by omega)]) ?_
    simp only [List.set_cons_succ]
    have hTn2 : T1.set n g2.row = (gs.set n g2).map Fg.row := by rw [hT1, List.set_set, hTd, List.map_set]
    rw [hTn2]
    have hsl : (gs.set n g2).length = gs.length := List.length_set
    have hl2 : ∀ g ∈ gs.set n g2, g.rs.length ≤ fB i k + (j + 1) := fun f2 hf => by
     rcases List.mem_or_eq_of_mem_set hf with hf | hf
     ·exact Nat.le_succ_of_le (hgr f2 hf)
     ·rw [hf, hg2]; simp only [List.length_append, List.length_singleton]; omega
    rw [← hsl]
    rw [← hsl] at hgl
    clear hTn2
    generalize gs.set n g2 = fs at hJ hl2 hgl
    refine Sat.region_k fun kk hk => ?_
    simp -implicitDefEqProofs only [evr, id, seval, tre_eql, res_one, tre_one, treRow, tre_ro, resRow, res_ro, tl_get, tl_set, ep_one, e3, evn]
    refine hk _ ?_
    simp only [thenK, blockK]
    refine ⟨(j + 1, fs, (oa, oc), f), ⟨by simp only; omega, hJ, hgl, hl2⟩, by simp only; omega, ?_⟩
    simp only [fgRow]
    simp -implicitDefEqProofs only [evr, id, seval, tre_eql, res_one, tre_one, treRow, tre_ro, resRow, res_ro, tl_get, tl_set, ep_one, evl, evn]
    try exact ownLe_refl _
   have h3 : j = p.length := by simp only [decide_eq_false_iff_not] at h; omega
   subst h3
   rw [List.take_length] at hF
   refine Sat.exit ?_
   simp only [thenK, blockK, reduceIte]
   refine Sat.region_k fun kk hk => ?_
   simp -implicitDefEqProofs only [evr, id, seval, tre_eql, res_one, tre_one, treRow, tre_ro, resRow, res_ro, tl_get, tl_set, ep_one, e2, evn]
   refine hk _ ?_
   simp only [thenK, blockK]
   have htk2 : l.take (k + 1) = l.take k ++ [c] := by
    rw [List.take_succ_eq_append_getElem h2, hc, List.getD_eq_getElem?_getD, List.getElem?_eq_getElem h2]; rfl
   refine ⟨(k + 1, gs, oa, oc), ⟨by simp only; omega, hF.done.mono (fun p' hp' => ?_), ?_, fun g hg => ?_⟩, by simp only; omega, ?_⟩
   ·rcases hp' with hp' | ⟨c', hc', e9⟩
    ·exact .inl (.inl hp')
    ·rw [htk2] at hc'
     rcases List.mem_append.1 hc' with hc' | hc'
     ·exact .inl (.inr ⟨c', hc', e9⟩)
     ·rw [List.mem_singleton] at hc'
      exact .inr (by rw [e9, hc', hp])
   ·have h8 : gs.length ≤ fB i (k + 1) := fB_k hgl (by omega)
    exact h8
   ·have h9 := hgr g hg
    have h8 : g.rs.length ≤ fB i (k + 1) := fB_k h9 (by omega)
    exact h8
   ·simp only [fgRow]
    rw [← hTd]
    simp -implicitDefEqProofs only [evr, id, seval, tre_eql, res_one, tre_one, treRow, tre_ro, resRow, res_ro, tl_get, tl_set, ep_one, evl, evn]
    exact ownLe_refl _
  have h2 : k = l.length := by simp only [decide_eq_false_iff_not] at h; omega
  subst h2
  rw [List.take_length] at hF
  refine Sat.exit ?_
  simp only [thenK, blockK, reduceIte]
  refine Sat.region_k fun kk hk => ?_
  simp -implicitDefEqProofs only [evr, id, seval, tre_eql, res_one, tre_one, treRow, tre_ro, resRow, res_ro, tl_get, tl_set, ep_one, e1, evn]
  refine hk _ ?_
  simp only [thenK, blockK]
  have htk : ts.take (i + 1) = ts.take i ++ [t] := by
   rw [List.take_succ_eq_append_getElem h1, ht]; simp [getElem!_def, h1]
  refine ⟨(i + 1, gs, oa, oc), ⟨by simp only; omega, hF.mono (fun p' hp' => ?_), ?_, fun g hg => ?_⟩, by simp only; omega, ?_⟩
  ·obtain ⟨t', ht', h9⟩ := hp'
   simp only at ht'
   rw [htk] at ht'
   rcases List.mem_append.1 ht' with ht' | ht'
   ·exact .inl ⟨t', ht', h9⟩
   ·rw [List.mem_singleton] at ht'
    subst ht'
    rw [hzs] at hcut ⊢
    exact .inr ((IsPartT.iff ho hcut).1 h9)
  ·have h8 : gs.length ≤ fB (i + 1) 0 := fB_i hgl hll
   exact h8
  ·have h9 := hgr g hg
   have h8 : g.rs.length ≤ fB (i + 1) 0 := fB_i h9 hll
   exact h8
  ·simp only [fgRow]
   rw [← hTd]
   simp -implicitDefEqProofs only [evr, id, seval, tre_eql, res_one, tre_one, treRow, tre_ro, resRow, res_ro, tl_get, tl_set, ep_one, evl, evn]
   exact ownLe_refl _
 have h1 : i = ts.length := by simp only [decide_eq_false_iff_not] at h; omega
 subst h1
 rw [List.take_length] at hF
 refine Sat.exit ?_
 simp only [thenK, blockK, reduceIte]
 have hB : fB ts.length 0 ≤ 1000000000 := Nat.le_trans (fB_le (by omega) (Nat.zero_le _)) (by decide)
 have hfin : ∀ g ∈ gs, g.rs.length ≤ 1000000000 := fun g hg => Nat.le_trans (hgr g hg) hB
 refine Sat.reown (own' := .row oa 23 gs.length oc 1 (fgRd gs) :: T) (fun j => if j = 0 then 1 else j + 2) (fun j o ho => ?_) (fun i j o o' hij ho ho' _ _ e => ?_) ?_
 ·match j, ho with
  | 0, ho => exact .inr (by simpa using ho)
  | j + 1, ho => exact .inr (by rw [if_neg (by omega)]; simpa using ho)
 ·split at e <;> split at e <;> omega
 refine Sat.redo 3 (.os 0 oa gs.length oc) rfl rfl (fun _ _ => trivial) ?_
 refine Sat.settleTail (o' := .row oa 23 gs.length oc 1 (fgS gs)) (fun b hb => by cases oa <;> exact hb) (fun R R' B w hRR hT hTb hno ho => ?_) ?_
 ·obtain ⟨h2, h3, h4⟩ := ho
  have hden : ∀ q r, q < gs.length → r < 1 → (fgRd gs q r).den = (fgS gs q r).den := fun q r hq hr => rfl
  refine ⟨?_, fun g hg => hno _ (by rw [hg]; rfl), fun q r hq hr => ⟨?_, ?_⟩⟩
  ·have e2 : cellsOf gs.length 1 (fgS gs) = cellsOf gs.length 1 (fgRd gs) := by
    unfold cellsOf
    refine List.map_congr_left fun t ht => rfl
   rw [e2]
   exact h2
  ·exact (h4 q r hq hr).1
  ·have htm : (gs.getD q default).row ∈ T := by rw [hTd]; exact List.mem_map.2 ⟨_, getD_mem hq, rfl⟩
   exact row_sl (hT _ htm) hRR (fun b hb => hTb _ htm b hb)
 refine Sat.settle2 3 rfl rfl ?_
 simp -implicitDefEqProofs only [evr, id, seval, tre_eql, res_one, tre_one, treRow, tre_ro, resRow, res_ro, tl_get, tl_set, ep_one, evn]
 (repeat refine Sat.seq ?_)
 (refine Sat.region_k fun k hk => ?_; simp -implicitDefEqProofs only [evr, id, seval, tre_eql, res_one, tre_one, treRow, tre_ro, resRow, res_ro, tl_get, tl_set, ep_one, evn]; refine hk _ ?_; clear hk k; try show Sat _ _ _ _ _)
 refine Sat.ret ?_
 simp only [Tryz.results45, evr, id, seval, tre_eql, res_one, tre_one, treRow, tre_ro, List.append_nil, Int.toNat_zero, Nat.sub_self, Int.reduceToNat, resRow, res_ro, tl_get, tl_set, ep_one]
 exact ⟨oa, oc, gs, FlowsOf.of hts hF, Nat.le_trans hgl hB, hfin, rfl⟩
end Go.Proofs.YtfeiiadligkamaaGreat


/- Rows of exclusions. -/
namespace Go.Proofs.YtfeiiadligkamaaGreat
open Go.Sort Eng
def excRd (d : Array Exc) : Nat → Nat → SV := fun i j => (Exc.cs d[i]!).getD j default
def excRow (ad : Option Addr) (N cap : Nat) (d : Array Exc) : Own := .row ad 29 N cap 8 (excRd d)
def excAg (x : Exc) : SV := .agg 8 fun j => (Exc.cs x).getD j default
theorem exc_one (d : Array Exc) (i j : Nat) (h : j < 8) : oneS (excRd d i j) = true := by
 rcases (show j = 0 ∨ j = 1 ∨ j = 2 ∨ j = 3 ∨ j = 4 ∨ j = 5 ∨ j = 6 ∨ j = 7 by omega) with rfl | rfl | rfl | rfl | rfl | rfl | rfl | rfl <;> rfl
def excCmp (g : FuncId) (lt : Exc → Exc → Bool) : Prop := ∀ x y, ∃ c : Int, lt x y = decide (c < 0) ∧ ∀ F, Contract F Tryz.prog g [excAg x, excAg y] (fun r => r = .i .i64 c)
end Go.Proofs.YtfeiiadligkamaaGreat


/- slices.SortFunc, by the shelf: sorts. -/
namespace Go.Proofs.YtfeiiadligkamaaGreat
open Go.Sort Eng
theorem exc_one1 (x : Exc) : ∀ s ∈ Exc.cs x, s.den.oneCell' = true := fun s hs => one_den (List.all_eq_true.1 (show (Exc.cs x).all oneS = true from rfl) s hs)
theorem exc_def (R : Nat → Prop) (w : World) : ∀ s ∈ Exc.cs default, s.ok R w := by
 intro s hs
 simp only [Exc.cs, List.mem_cons, List.not_mem_nil, or_false] at hs
 rcases hs with rfl | rfl | rfl | rfl | rfl | rfl | rfl | rfl <;> first | trivial | exact ⟨Nat.le_refl _, Nat.zero_le _, .inl rfl⟩
theorem excSortC (F : Frm) {g : FuncId} {rdc : Nat → SV} {lt : Exc → Exc → Bool} (hw : SWO lt) (hc : excCmp g lt) (ad : Option Addr) (cap N : Nat) (hN : N ≤ 1000000000000) (d : Array Exc) (hd : d.size = N) :
  ContractM F Tryz.prog 49 [.os 0 ad N cap, .fn g 0 rdc] (excRow ad N cap d)
   (fun r o1 => r = tupL [] ∧ ∃ d', d'.size = N ∧ (PermIn 0 N d d' ∧ SortedIn lt 0 N d') ∧ o1 = excRow ad N cap d') :=
 sortK Tryz.sortExclusion 8 (by decide) Tryz.isAgg29 Tryz.sizeOf29 Exc.cs (fun _ => rfl) exc_one1 exc_def F 29 (enters_of Tryz.func49 (by kernel_rfl) rfl) hw hc ad cap N hN d hd
end Go.Proofs.YtfeiiadligkamaaGreat


/- Exclusions, by the evaluator: exclusion.Compare, Pairs. -/
namespace Go.Proofs.YtfeiiadligkamaaGreat
open Go.Sort Eng
theorem sim_idn {f : Nat → SV} {d : Idn} (h0 : f 0 = .i .i64 d.van) (h1 : f 1 = .i .i64 d.run) (h2 : f 2 = .i .i64 d.num) : sim (.agg 3 f) (idnAg d) := by
 refine ⟨?_, fun R w _ j hj => ?_⟩
 ·simp only [SV.den, idnAg]
  congr 1
  have : (List.range 3) = [0, 1, 2] := rfl
  rw [this]
  simp only [List.map_cons, List.map_nil, h0, h1, h2]
  rfl
 ·rcases (show j = 0 ∨ j = 1 ∨ j = 2 by omega) with rfl | rfl | rfl <;> trivial
set_option maxHeartbeats 1000000 in
set_option maxRecDepth 100000 in
theorem compareExC (F : Frm) (x y : Exc) : Contract F Tryz.prog 24 [excAg x, excAg y] (fun r => r = .i .i64 (excCmpI x y)) := by
 rw [excCmp_or]
 refine contract_of Tryz.func24 rfl (by kernel_rfl) ?_
 simp only [Tryz.ntmps24, argEnv, excAg, Exc.cs]
 (repeat refine Sat.seq ?_)
 (refine Sat.region_k fun k hk => ?_; simp -implicitDefEqProofs only [evr, id, seval, exc_one, res_one, fg_one, idn_one, par_one, resRow, res_ro, rExtract_tup, evn])
 intro blk1 blk2
 (refine hk _ ?_; clear hk k; try show Sat _ _ _ _ _)
 (repeat refine Sat.seq ?_)
 (refine Sat.region_tree (OT.keep [0, 2, 5, 7, 10, 12, 15, 17, 1, 3, 6, 8, 11, 13, 16, 18] [4, 9, 14, 19] (BT.one 4 (BT.one 9 (BT.one 14 (BT.one 19 (BT.one 20 (BT.one 21 (BT.one 22 BT.done)))))))) (by kernel_rfl) (by kernel_rfl) (fun _ _ h => h) fun k hk => ?_; simp only [WOT, List.map_cons, List.map_nil, List.getD_cons_zero, List.getD_cons_succ]; simp -implicitDefEqProofs only [evr, id, seval, exc_one, res_one, fg_one, idn_one, par_one, resRow, res_ro, rExtract_tup, WOT, evn])
 refine wcall_plain (cmpAC F x.a y.a) rfl (by rintro _ rfl; exact ok_plain rfl) ?_
 rintro r rfl
 simp -implicitDefEqProofs only [evr, id, seval, exc_one, res_one, fg_one, idn_one, par_one, resRow, res_ro, rExtract_tup, evn]
 refine wcall_plain (cmpAC F x.b y.b) rfl (by rintro _ rfl; exact ok_plain rfl) ?_
 rintro r rfl
 simp -implicitDefEqProofs only [evr, id, seval, exc_one, res_one, fg_one, idn_one, par_one, resRow, res_ro, rExtract_tup, evn]
 refine wcall_plain (Contract.of_sim (args := [.agg 3 fun j => (Exc.cs x).getD (2 + j) default, .agg 3 fun j => (Exc.cs y).getD (2 + j) default]) (compareIdC F x.f y.f) ⟨sim_idn rfl rfl rfl, sim_idn rfl rfl rfl, trivial⟩) rfl (by rintro _ rfl; exact ok_plain rfl) ?_
 rintro r rfl
 simp -implicitDefEqProofs only [evr, id, seval, exc_one, res_one, fg_one, idn_one, par_one, resRow, res_ro, rExtract_tup, evn]
 refine wcall_plain (Contract.of_sim (args := [.agg 3 fun j => (Exc.cs x).getD (5 + j) default, .agg 3 fun j => (Exc.cs y).getD (5 + j) default]) (compareIdC F x.s y.s) ⟨sim_idn rfl rfl rfl, sim_idn rfl rfl rfl, trivial⟩) rfl (by rintro _ rfl; exact ok_plain rfl) ?_
 rintro r rfl
 simp -implicitDefEqProofs only [evr, id, seval, exc_one, res_one, fg_one, idn_one, par_one, resRow, res_ro, rExtract_tup, evn]
 intro blk3
 refine wcall_plain (orC F (some ⟨blk3, 0, none⟩) 4 [ordI x.a y.a, ordI x.b y.b, idnCmpI x.f y.f, idnCmpI x.s y.s] (by simp)) (by simp -implicitDefEqProofs only [evr, id, seval, exc_one, res_one, fg_one, idn_one, par_one, resRow, res_ro, rExtract_tup, intsRd, evn]) (by rintro _ rfl; exact ok_plain rfl) ?_
 rintro r rfl
 simp -implicitDefEqProofs only [evr, id, seval, exc_one, res_one, fg_one, idn_one, par_one, resRow, res_ro, rExtract_tup, evn]
 (refine hk _ ?_; clear hk k; try show Sat _ _ _ _ _)
 refine Sat.ret ?_
 simp only [Tryz.results24, evr, id, seval, exc_one, res_one, fg_one, idn_one, par_one, List.append_nil, Int.toNat_zero, Nat.sub_self, Int.reduceToNat, resRow, res_ro, rExtract_tup]
theorem excCmp1 : excCmp 24 excLt := fun x y => ⟨excCmpI x y, rfl, fun F => compareExC F x y⟩
def exKey (X : List Exc) (i : Nat) : List Int := (X.getD i default).pr.keys
def exVal (X : List Exc) (i : Nat) : SV := excAg (X.getD i default)
theorem seen_permA {α : Type} [Inhabited α] {ps : List α} {seen : List Nat} (hn : seen.Nodup) (hl : ∀ i ∈ seen, i < ps.length) (ha : ∀ i, i < ps.length → i ∈ seen) : (seen.map fun i => ps.getD i default).Perm ps := by
 have h1 : seen.Perm (List.range ps.length) := (List.perm_ext_iff_of_nodup hn List.nodup_range).2 fun i => by
  rw [List.mem_range]
  exact ⟨hl i, ha i⟩
 refine (h1.map _).trans ?_
 have : (List.range ps.length).map (fun i => ps.getD i default) = ps := by
  apply List.ext_getElem
  ·simp
  ·intro i h1 h2
   simp only [List.length_map, List.length_range] at h1
   simp [List.getD, h1]
 rw [this]
theorem seen_lenA {n : Nat} {seen : List Nat} (hn : seen.Nodup) (hl : ∀ i ∈ seen, i < n) : seen.length ≤ n := by
 have : seen.length ≤ (List.range n).length := hn.length_le_of_subset fun i hi => List.mem_range.2 (hl i hi)
 simpa using this
theorem best_len {α : Type} {key : α → Par} {lt : α → α → Bool} {C : α → Prop} {X : List α} (h : BestI key lt C X) {la lb : List Int} (hc : ∀ x, C x → (key x).a ∈ la ∧ (key x).b ∈ lb) : X.length ≤ la.length * lb.length := by
 have h1 : (X.map key).length ≤ (la.flatMap fun a => lb.map fun b => (⟨a, b⟩ : Par)).length := h.nodup.length_le_of_subset fun p hp => by
  obtain ⟨e, he, rfl⟩ := List.mem_map.1 hp
  obtain ⟨h2, h3⟩ := hc e (h.each e he).1
  exact List.mem_flatMap.2 ⟨_, h2, List.mem_map.2 ⟨_, h3, rfl⟩⟩
 have h2 : (la.flatMap fun a => lb.map fun b => (⟨a, b⟩ : Par)).length = la.length * lb.length := by
  clear h1 hc
  induction la with
  | nil => simp
  | cons a la ih => rw [List.flatMap_cons, List.length_append, ih, List.length_map, List.length_cons, Nat.succ_mul]; omega
 rw [List.length_map] at h1
 omega
theorem exc_app {ys : List Exc} {x : Exc} {cs : List SV} (h : cs = Exc.cs x) : rdEq (ys.length + 1) 8 (rdCat ys.length (excRd ys.toArray) (rdL cs 8)) (excRd (ys ++ [x]).toArray) := by
 subst h
 refine rdEq_snoc (fun i j hi hj => ?_) (fun j hj => ?_)
 ·unfold excRd
  simp [getElem!_def, List.getElem?_append, hi]
 ·unfold excRd
  simp [getElem!_def]
theorem exc_par {x y : Exc} (h : parLt x.pr y.pr = true) : excLt x y = true := by
 unfold parLt parCmpI at h
 unfold excLt excCmpI
 rw [decide_eq_true_eq] at *
 simp only [Par.keys, Exc.pr, Exc.keys, cmpL_cons] at h ⊢
 split at h
 ·rename_i e1
  split at h
  ·simp [cmpL, orL] at h
  ·rename_i e2
   rw [if_pos e1, if_neg e2]; exact h
 ·rename_i e1
  rw [if_neg e1]; exact h
theorem exc_sorted {L : List Exc} {d' : Array Exc} (hd : d'.size = L.length) (hp : PermIn 0 L.length L.toArray d') (hs : SortedIn excLt 0 L.length d') : d'.toList.Perm L ∧ d'.toList.Pairwise fun a b => parLt b.pr a.pr = false := by
 have h := hp.2.2
 have e1 : (d'.extract 0 L.length) = d' := by rw [← hd]; simp
 have e2 : (L.toArray.extract 0 L.length) = L.toArray := by simp
 rw [e1, e2] at h
 refine ⟨by simpa using h, ?_⟩
 rw [List.pairwise_iff_getElem]
 intro i j hi hj hij
 have hi' : i < d'.size := by simpa using hi
 have hj' : j < d'.size := by simpa using hj
 have := hs i j (Nat.zero_le _) hij (by omega)
 have h9 : excLt d'.toList[j] d'.toList[i] = false := by simpa [getElem!_def, hi', hj'] using this
 cases hc : parLt (d'.toList[j]).pr (d'.toList[i]).pr with
 | false => rfl
 | true => rw [exc_par hc] at h9; cases h9
theorem excC_len {xs : List Res} {X : List Exc} (hl : xs.length ≤ 512) (h : BestI Exc.pr excB (ExcC xs) X) : X.length ≤ 262144 := by
 have h1 := best_len (la := xs.map Res.from_) (lb := xs.map Res.from_) h (fun x hx => by
  obtain ⟨p, hp, a, ha, b, hb, _, _, _, _, rfl⟩ := hx
  exact ⟨List.mem_map.2 ⟨a, (hp.sub a ha).1, rfl⟩, List.mem_map.2 ⟨b, (hp.sub b hb).1, rfl⟩⟩)
 rw [List.length_map] at h1
 exact Nat.le_trans h1 (Nat.le_trans (Nat.mul_le_mul hl hl) (by decide))
set_option maxHeartbeats 2000000 in
set_option maxRecDepth 100000 in
theorem exPairsC (F : Frm) (ad : Option Addr) (cap : Nat) (xs : List Res) (hl : xs.length ≤ 512) (hin : ∀ r ∈ xs, RgR r) :
  Contract F Tryz.prog 12 [.sl ad xs.length cap 17 (resRd xs.toArray)] (fun r => (xs.any (fun x => !validR x) = true ∧ ∃ rd, r = tupL [.sl none 0 0 0 rd, .i .i64 1]) ∨
   (xs.any (fun x => !validR x) = false ∧ ∃ a cap es, ExcOf xs es ∧ es.length ≤ 1000000000000 ∧ r = tupL [.sl a es.length cap 8 (excRd es.toArray), .i .i64 0])) := by
 refine contract_of Tryz.func12 rfl (by kernel_rfl) ?_
 simp only [Tryz.ntmps12, argEnv]
 (repeat refine Sat.seq ?_)
 (refine Sat.region_k fun k hk => ?_; simp -implicitDefEqProofs only [evr, id, seval, exc_one, res_one, fg_one, idn_one, par_one, resRow, res_ro, rExtract_tup, evn]; refine hk _ ?_; clear hk k; try show Sat _ _ _ _ _)
 (repeat refine Sat.seq ?_)
 (refine Sat.region_k fun k hk => ?_; simp -implicitDefEqProofs only [evr, id, seval, exc_one, res_one, fg_one, idn_one, par_one, resRow, res_ro, rExtract_tup, evn])
 refine wcall_plain (exCheckC F ad cap xs hl hin) rfl (by rintro _ rfl; exact ok_plain rfl) ?_
 rintro _ rfl
 simp -implicitDefEqProofs only [evr, id, seval, exc_one, res_one, fg_one, idn_one, par_one, resRow, res_ro, rExtract_tup, evn]
 (refine hk _ ?_; clear hk k; try show Sat _ _ _ _ _)
 (repeat refine Sat.seq ?_)
 (refine Sat.region_k fun k hk => ?_; simp -implicitDefEqProofs only [evr, id, seval, exc_one, res_one, fg_one, idn_one, par_one, resRow, res_ro, rExtract_tup, evn]; refine hk _ ?_; clear hk k; try show Sat _ _ _ _ _)
 (repeat refine Sat.seq ?_)
 refine Sat.cond_b rfl (fun h => ?_) (fun h => ?_)
 ·have hb : xs.any (fun x => !validR x) = true := by
   cases hx : xs.any (fun x => !validR x) with
   | true => rfl
   | false => rw [hx] at h; cases h
  rw [hb]
  (repeat refine Sat.seq ?_)
  (refine Sat.region_k fun k hk => ?_; simp -implicitDefEqProofs only [evr, id, seval, exc_one, res_one, fg_one, idn_one, par_one, resRow, res_ro, rExtract_tup, evn]; refine hk _ ?_; clear hk k; try show Sat _ _ _ _ _)
  refine Sat.ret ?_
  simp only [Tryz.results12, evr, id, seval, exc_one, res_one, fg_one, idn_one, par_one, List.append_nil, Int.toNat_zero, Nat.sub_self, Int.reduceToNat, resRow, res_ro, rExtract_tup]
  exact .inl ⟨_, rfl⟩
 have hb : xs.any (fun x => !validR x) = false := by
  cases hx : xs.any (fun x => !validR x) with
  | false => rfl
  | true => rw [hx] at h; cases h
 refine Sat.skip ?_
 simp only [thenK]
 (repeat refine Sat.seq ?_)
 have hT : mqT Tryz.prog 87 = some (false, [.u32, .u32], 29) := by kernel_rfl
 (refine Sat.region_k fun k hk => ?_; simp -implicitDefEqProofs only [evr, id, seval, exc_one, res_one, fg_one, idn_one, par_one, resRow, res_ro, rExtract_tup, evn])
 refine makeMq hT (show 24 < 116 by decide) fun mb => ?_
 simp -implicitDefEqProofs only [evr, id, seval, exc_one, res_one, fg_one, idn_one, par_one, resRow, res_ro, rExtract_tup, evn]
 (refine hk _ ?_; clear hk k; try show Sat _ _ _ _ _)
 (repeat refine Sat.seq ?_)
 (refine Sat.region_k fun k hk => ?_; simp -implicitDefEqProofs only [evr, id, seval, exc_one, res_one, fg_one, idn_one, par_one, resRow, res_ro, rExtract_tup, evn])
 refine wcall_slice (flowsC F ad cap xs hl hin) rfl rfl ?_
 rintro _ ⟨ga, gc, gs, hfl, hgl, hgr, rfl⟩
 simp -implicitDefEqProofs only [evr, id, seval, exc_one, res_one, fg_one, idn_one, par_one, resRow, res_ro, rExtract_tup, evn]
 (refine hk _ ?_; clear hk k; try show Sat _ _ _ _ _)
 (repeat refine Sat.seq ?_)
 refine Sat.block ?_
 refine Sat.loop (ι := Nat × List Exc) (fun z => ⟨116, [(28, .i .i64 z.1), (27, .i .i64 gs.length), (26, .sl ga gs.length gc 1 (fgS gs)), (5, .mp 0 mb)], [.mq mb false [.u32, .u32] z.2.length (exKey z.2) (exVal z.2)]⟩)
  (fun z => z.1 ≤ gs.length ∧ BestI Exc.pr excB (fun x => ∃ g ∈ gs.take z.1, ∃ a ∈ g.rs, ∃ b ∈ g.rs, ExcR a b ∧ x = mkExc a b) z.2) (fun z => gs.length - z.1) (0, [])
  ⟨Nat.zero_le _, BestI.start.congr fun x => ⟨fun h => h.elim, fun ⟨g, hg, _⟩ => (by cases hg)⟩⟩ (by simp -implicitDefEqProofs only [evr, id, seval, exc_one, res_one, fg_one, idn_one, par_one, resRow, res_ro, rExtract_tup, evl, evn]; try exact fun i hi => absurd hi (Nat.not_lt_zero _)) ?_
 rintro ⟨i, X⟩ ⟨hi, hB⟩
 simp only at hi hB ⊢
 (repeat refine Sat.seq ?_)
 (refine Sat.region_k fun k hk => ?_; simp -implicitDefEqProofs only [evr, id, seval, exc_one, res_one, fg_one, idn_one, par_one, resRow, res_ro, rExtract_tup, evn]; refine hk _ ?_; clear hk k; try show Sat _ _ _ _ _)
 (repeat refine Sat.seq ?_)
 refine Sat.cond_b rfl (fun h => ?_) (fun h => ?_)
 ·have h1 : i < gs.length := by simp only [decide_eq_true_eq] at h; omega
  have e1 : IntKind.i64.wrap ((i : Int) + 1) = ((i + 1 : Nat) : Int) := by rw [w64 (by omega)]; omega
  obtain ⟨g, hg⟩ : ∃ g, g = gs.getD i default := ⟨_, rfl⟩
  have hgi : gs[i] = g := by rw [hg, List.getD_eq_getElem?_getD, List.getElem?_eq_getElem h1]; rfl
  have hgm : g ∈ gs := by rw [← hgi]; exact List.getElem_mem h1
  have hgl2 := hgr g hgm
  have q0 : fgS gs i 0 = .sl g.a g.rs.length g.cap 17 (resRd g.rs.toArray) := by rw [hg]; rfl
  have htk : gs.take (i + 1) = gs.take i ++ [g] := by rw [List.take_succ_eq_append_getElem h1, hgi]
  refine Sat.skip ?_
  simp only [thenK]
  (repeat refine Sat.seq ?_)
  refine Sat.block ?_
  (repeat refine Sat.seq ?_)
  (refine Sat.region_k fun k hk => ?_; simp -implicitDefEqProofs only [evr, id, seval, exc_one, res_one, fg_one, idn_one, par_one, resRow, res_ro, rExtract_tup, evn])
  simp only [q0]
  refine ⟨by omega, ?_⟩
  (refine hk _ ?_; clear hk k; try show Sat _ _ _ _ _)
  (repeat refine Sat.seq ?_)
  (refine Sat.region_k fun k hk => ?_; simp -implicitDefEqProofs only [evr, id, seval, exc_one, res_one, fg_one, idn_one, par_one, resRow, res_ro, rExtract_tup, evn]; refine hk _ ?_; clear hk k; try show Sat _ _ _ _ _)
  (repeat refine Sat.seq ?_)
  refine Sat.block ?_
  refine Sat.loop (ι := Nat × List Exc) (fun z => ⟨116, [(34, .i .i64 z.1), (33, .i .i64 g.rs.length), (32, .sl g.a g.rs.length g.cap 17 (resRd g.rs.toArray)), (7, .sl g.a g.rs.length g.cap 17 (resRd g.rs.toArray)), (28, .i .i64 i), (27, .i .i64 gs.length), (26, .sl ga gs.length gc 1 (fgS gs)), (5, .mp 0 mb)], [.mq mb false [.u32, .u32] z.2.length (exKey z.2) (exVal z.2)]⟩)
   (fun z => z.1 ≤ g.rs.length ∧ BestI Exc.pr excB (fun x => (∃ g ∈ gs.take i, ∃ a ∈ g.rs, ∃ b ∈ g.rs, ExcR a b ∧ x = mkExc a b) ∨ ∃ a ∈ g.rs.take z.1, ∃ b ∈ g.rs, ExcR a b ∧ x = mkExc a b) z.2) (fun z => g.rs.length - z.1) (0, X)
   ⟨Nat.zero_le _, hB.congr fun x => ⟨.inl, fun h => h.elim id fun ⟨a, ha, _⟩ => (by cases ha)⟩⟩ (by simp -implicitDefEqProofs only [evr, id, seval, exc_one, res_one, fg_one, idn_one, par_one, resRow, res_ro, rExtract_tup, evl, evn]; try exact fun i hi => ⟨rfl, rfl⟩) ?_
  clear hB
  rintro ⟨j, X⟩ ⟨hj, hB⟩
  simp only at hj hB ⊢
  (repeat refine Sat.seq ?_)
  (refine Sat.region_k fun k hk => ?_; simp -implicitDefEqProofs only [evr, id, seval, exc_one, res_one, fg_one, idn_one, par_one, resRow, res_ro, rExtract_tup, evn]; refine hk _ ?_; clear hk k; try show Sat _ _ _ _ _)
  (repeat refine Sat.seq ?_)
  refine Sat.cond_b rfl (fun h => ?_) (fun h => ?_)
  ·have h2 : j < g.rs.length := by simp only [decide_eq_true_eq] at h; omega
   have e2 : IntKind.i64.wrap ((j : Int) + 1) = ((j + 1 : Nat) : Int) := by rw [w64 (by omega)]; omega
   obtain ⟨a, ha⟩ : ∃ a, a = g.rs.toArray[j]! := ⟨_, rfl⟩
   have haj : g.rs[j] = a := by rw [ha, getB h2]
   have htk2 : g.rs.take (j + 1) = g.rs.take j ++ [a] := by rw [List.take_succ_eq_append_getElem h2, haj]
   refine Sat.skip ?_
   simp only [thenK]
   (repeat refine Sat.seq ?_)
   refine Sat.block ?_
   (repeat refine Sat.seq ?_)
   (refine Sat.region_k fun k hk => ?_; simp -implicitDefEqProofs only [evr, id, seval, exc_one, res_one, fg_one, idn_one, par_one, resRow, res_ro, rExtract_tup, evn])
   refine ⟨by omega, fun b9 => ?_⟩
   (refine hk _ ?_; clear hk k; try show Sat _ _ _ _ _)
   refine Sat.settleLast [.mq mb false [.u32, .u32] X.length (exKey X) (exVal X)] 9 rfl ?_
   simp only [List.length_cons, List.length_nil]
   (repeat refine Sat.seq ?_)
   (refine Sat.region_k fun k hk => ?_; simp -implicitDefEqProofs only [evr, id, seval, exc_one, res_one, fg_one, idn_one, par_one, resRow, res_ro, rExtract_tup, evn]; refine hk _ ?_; clear hk k; try show Sat _ _ _ _ _)
   (repeat refine Sat.seq ?_)
   refine Sat.block ?_
   refine Sat.loop (ι := Nat × List Exc) (fun z => ⟨116, [(40, .i .i64 z.1), (39, .i .i64 g.rs.length), (38, .sl g.a g.rs.length g.cap 17 (resRd g.rs.toArray)), (9, .el ⟨b9, 0, none⟩ 17 fun j => (Res.cs a).getD j default), (34, .i .i64 j), (33, .i .i64 g.rs.length), (32, .sl g.a g.rs.length g.cap 17 (resRd g.rs.toArray)), (7, .sl g.a g.rs.length g.cap 17 (resRd g.rs.toArray)), (28, .i .i64 i), (27, .i .i64 gs.length), (26, .sl ga gs.length gc 1 (fgS gs)), (5, .mp 0 mb)], [.mq mb false [.u32, .u32] z.2.length (exKey z.2) (exVal z.2)]⟩)
    (fun z => z.1 ≤ g.rs.length ∧ BestI Exc.pr excB (fun x => ((∃ g ∈ gs.take i, ∃ a ∈ g.rs, ∃ b ∈ g.rs, ExcR a b ∧ x = mkExc a b) ∨ ∃ a ∈ g.rs.take j, ∃ b ∈ g.rs, ExcR a b ∧ x = mkExc a b) ∨ ∃ b ∈ g.rs.take z.1, ExcR a b ∧ x = mkExc a b) z.2) (fun z => g.rs.length - z.1) (0, X)
    ⟨Nat.zero_le _, hB.congr fun x => ⟨.inl, fun h => h.elim id fun ⟨a, ha, _⟩ => (by cases ha)⟩⟩ (by
     simp -implicitDefEqProofs only [evr, id, seval, exc_one, res_one, fg_one, idn_one, par_one, resRow, res_ro, rExtract_tup, evl, evn]
     rw [ha]; rfl) ?_
   clear hB
   rintro ⟨k, X⟩ ⟨hk2, hB⟩
   simp only at hk2 hB ⊢
   (repeat refine Sat.seq ?_)
   (refine Sat.region_k fun k hk => ?_; simp -implicitDefEqProofs only [evr, id, seval, exc_one, res_one, fg_one, idn_one, par_one, resRow, res_ro, rExtract_tup, evn]; refine hk _ ?_; clear hk k; try show Sat _ _ _ _ _)
   (repeat refine Sat.seq ?_)
   refine Sat.cond_b rfl (fun h => ?_) (fun h => ?_)
   ·have h3 : k < g.rs.length := by simp only [decide_eq_true_eq] at h; omega
    have e3 : IntKind.i64.wrap ((k : Int) + 1) = ((k + 1 : Nat) : Int) := by rw [w64 (by omega)]; omega
    obtain ⟨b, hb2⟩ : ∃ b, b = g.rs.toArray[k]! := ⟨_, rfl⟩
    have hbk : g.rs[k] = b := by rw [hb2, getB h3]
    have htk3 : g.rs.take (k + 1) = g.rs.take k ++ [b] := by rw [List.take_succ_eq_append_getElem h3, hbk]
    refine Sat.skip ?_
    simp only [thenK]
    (repeat refine Sat.seq ?_)
    refine Sat.block ?_
    (repeat refine Sat.seq ?_)
    (refine Sat.region_k fun k hk => ?_; simp -implicitDefEqProofs only [evr, id, seval, exc_one, res_one, fg_one, idn_one, par_one, resRow, res_ro, rExtract_tup, evn])
    refine ⟨by omega, fun b11 => ?_⟩
    (refine hk _ ?_; clear hk k; try show Sat _ _ _ _ _)
    refine Sat.settleLast [.mq mb false [.u32, .u32] X.length (exKey X) (exVal X)] 11 rfl ?_
    refine Sat.le (st' := ⟨116, [(11, .el ⟨b11, 0, none⟩ 17 fun j => (Res.cs b).getD j default), (9, .el ⟨b9, 0, none⟩ 17 fun j => (Res.cs a).getD j default), (40, .i .i64 k), (39, .i .i64 g.rs.length), (38, .sl g.a g.rs.length g.cap 17 (resRd g.rs.toArray)), (34, .i .i64 j), (33, .i .i64 g.rs.length), (32, .sl g.a g.rs.length g.cap 17 (resRd g.rs.toArray)), (7, .sl g.a g.rs.length g.cap 17 (resRd g.rs.toArray)), (28, .i .i64 i), (27, .i .i64 gs.length), (26, .sl ga gs.length gc 1 (fgS gs)), (5, .mp 0 mb)], [.mq mb false [.u32, .u32] X.length (exKey X) (exVal X)]⟩) ?_ (by
     simp only [List.length_cons, List.length_nil]
     simp -implicitDefEqProofs only [evr, id, seval, exc_one, res_one, fg_one, idn_one, par_one, resRow, res_ro, rExtract_tup, evl, evn]
     rw [hb2]; rfl)
    simp only [Res.cs]
    (repeat refine Sat.seq ?_)
    refine Sat.joinK (ι := Bool) (fun q => ⟨116, [(57, .b q), (11, .el ⟨b11, 0, none⟩ 17 fun j => (Res.cs b).getD j default), (9, .el ⟨b9, 0, none⟩ 17 fun j => (Res.cs a).getD j default), (40, .i .i64 k), (39, .i .i64 g.rs.length), (38, .sl g.a g.rs.length g.cap 17 (resRd g.rs.toArray)), (34, .i .i64 j), (33, .i .i64 g.rs.length), (32, .sl g.a g.rs.length g.cap 17 (resRd g.rs.toArray)), (7, .sl g.a g.rs.length g.cap 17 (resRd g.rs.toArray)), (28, .i .i64 i), (27, .i .i64 gs.length), (26, .sl ga gs.length gc 1 (fgS gs)), (5, .mp 0 mb)], [.mq mb false [.u32, .u32] X.length (exKey X) (exVal X)]⟩) (fun q => q = !decide (a.ttl ≠ b.ttl ∧ a.from_ < b.from_)) (fun hrest => ?_) ?_
    ·(refine Sat.region_k fun k hk => ?_; simp -implicitDefEqProofs only [evr, id, seval, exc_one, res_one, fg_one, idn_one, par_one, resRow, res_ro, rExtract_tup, evn])
     refine ⟨fun q1 => hk _ ?_, fun q1 => hk _ ?_⟩
     ·simp only [thenK]
      have e9 : (!decide (a.ttl ≠ b.ttl ∧ a.from_ < b.from_)) = true := by
       have : a.ttl = b.ttl := by simpa using q1
       simp [this]
      refine (hrest _ rfl).le ?_
      rw [e9]
      simp only [Res.cs]
      simp -implicitDefEqProofs only [evr, id, seval, exc_one, res_one, fg_one, idn_one, par_one, resRow, res_ro, rExtract_tup, evl, evn]
     ·simp only [thenK]
      have e9 : (!decide (a.ttl ≠ b.ttl ∧ a.from_ < b.from_)) = decide (b.from_ ≤ a.from_) := by
       have h7 : a.ttl ≠ b.ttl := by simpa using q1
       apply Bool.eq_iff_iff.2
       simp only [Bool.not_eq_true', decide_eq_false_iff_not, decide_eq_true_eq, not_and]
       exact ⟨fun h => by have := h h7; omega, fun h _ => by omega⟩
      refine (hrest _ rfl).le ?_
      rw [e9]
      simp only [Res.cs]
      simp -implicitDefEqProofs only [evr, id, seval, exc_one, res_one, fg_one, idn_one, par_one, resRow, res_ro, rExtract_tup, evl, evn]
    rintro q rfl
    simp only [Res.cs]
    refine Sat.cond_b rfl (fun h4 => ?_) (fun h4 => ?_)
    ·have hno : ¬ ExcR a b := by unfold ExcR; simpa only [Bool.not_eq_true', decide_eq_false_iff_not] using h4
     refine Sat.exit ?_
     simp only [thenK, blockK, reduceIte]
     refine Sat.region_k fun kk hk => ?_
     simp -implicitDefEqProofs only [evr, id, seval, exc_one, res_one, fg_one, idn_one, par_one, resRow, res_ro, rExtract_tup, e3, evn]
     refine hk _ ?_
     simp only [thenK, blockK]
     refine ⟨(k + 1, X), ⟨by simp only; omega, hB.congr fun x => ?_⟩, by simp only; omega, ?_⟩
     ·simp only
      rw [htk3]
      refine or_congr Iff.rfl ⟨fun ⟨b', h8, h9⟩ => ⟨b', List.mem_append.2 (.inl h8), h9⟩, fun ⟨b', h8, h9⟩ => ?_⟩
      rcases List.mem_append.1 h8 with h8 | h8
      ·exact ⟨b', h8, h9⟩
      ·rw [List.mem_singleton] at h8
       subst h8
       exact absurd h9.1 hno
     ·simp -implicitDefEqProofs only [evr, id, seval, exc_one, res_one, fg_one, idn_one, par_one, resRow, res_ro, rExtract_tup, evl, evn]
      trace_state
      try exact fun i hi => ⟨rfl, rfl⟩
    have hyes : ExcR a b := by unfold ExcR; simpa only [Bool.not_eq_false', decide_eq_true_eq] using h4
    refine Sat.skip ?_
    simp only [thenK]
    (repeat refine Sat.seq ?_)
    (refine Sat.region_k fun k hk => ?_; simp -implicitDefEqProofs only [evr, id, seval, exc_one, res_one, fg_one, idn_one, par_one, resRow, res_ro, rExtract_tup, evn])
    intro b12
    (refine hk _ ?_; clear hk k; try show Sat _ _ _ _ _)
    refine Sat.settleLast [.mq mb false [.u32, .u32] X.length (exKey X) (exVal X)] 12 rfl ?_
    simp only [List.length_cons, List.length_nil, Nat.reduceAdd]
    have hlast : ∀ x, ((((∃ g ∈ gs.take i, ∃ a ∈ g.rs, ∃ b ∈ g.rs, ExcR a b ∧ x = mkExc a b) ∨ ∃ a ∈ g.rs.take j, ∃ b ∈ g.rs, ExcR a b ∧ x = mkExc a b) ∨ ∃ b ∈ g.rs.take k, ExcR a b ∧ x = mkExc a b) ∨ x = mkExc a b) ↔ ((∃ g ∈ gs.take i, ∃ a ∈ g.rs, ∃ b ∈ g.rs, ExcR a b ∧ x = mkExc a b) ∨ ∃ a ∈ g.rs.take j, ∃ b ∈ g.rs, ExcR a b ∧ x = mkExc a b) ∨ ∃ b ∈ g.rs.take (k + 1), ExcR a b ∧ x = mkExc a b := fun x => by
     rw [htk3, or_assoc]
     refine or_congr Iff.rfl ⟨fun h => ?_, fun ⟨b', h8, h9⟩ => ?_⟩
     ·rcases h with ⟨b', h8, h9⟩ | h
      ·exact ⟨b', List.mem_append.2 (.inl h8), h9⟩
      ·exact ⟨b, List.mem_append.2 (.inr (List.mem_singleton.2 rfl)), hyes, h⟩
     ·rcases List.mem_append.1 h8 with h8 | h8
      ·exact .inl ⟨b', h8, h9⟩
      ·rw [List.mem_singleton] at h8
       subst h8
       exact .inr h9.2
    obtain ⟨x, hx⟩ : ∃ x, x = mkExc a b := ⟨_, rfl⟩
    have hxc : Exc.cs x = [.i .u32 a.from_, .i .u32 b.from_, .i .i64 a.vantage, .i .i64 a.run, .i .i64 a.number, .i .i64 b.vantage, .i .i64 b.run, .i .i64 b.number] := by rw [hx]; rfl
    rw [← hx] at hlast
    (repeat refine Sat.seq ?_)
    refine Sat.atF (ι := Nat) (fun b13 => ⟨116, [(13, .op 1 b13 0), (12, .el ⟨b12, 0, none⟩ 2 fun j => [SV.i .u32 a.from_, .i .u32 b.from_].getD j default), (11, .el ⟨b11, 0, none⟩ 17 fun j => (Res.cs b).getD j default), (9, .el ⟨b9, 0, none⟩ 17 fun j => (Res.cs a).getD j default), (40, .i .i64 k), (39, .i .i64 g.rs.length), (38, .sl g.a g.rs.length g.cap 17 (resRd g.rs.toArray)), (34, .i .i64 j), (33, .i .i64 g.rs.length), (32, .sl g.a g.rs.length g.cap 17 (resRd g.rs.toArray)), (7, .sl g.a g.rs.length g.cap 17 (resRd g.rs.toArray)), (28, .i .i64 i), (27, .i .i64 gs.length), (26, .sl ga gs.length gc 1 (fgS gs)), (5, .mp 0 mb)], [.mq mb false [.u32, .u32] X.length (exKey X) (exVal X), .box b13 29 (Exc.cs x)]⟩) (fun _ => True) ?_ ?_
    ·rw [hxc]
     (refine Sat.region_tree (.keep [0, 2, 1, 3, 4, 6] [5, 7, 8, 9] (.alt 5 (.alt 7 (.free 8 (.one 9 (.one 10 .done))) (.alt 9 (.one 7 (.one 8 (.one 10 .done))) .none)) (.alt 9 (.one 5 (.one 7 (.one 8 (.one 10 .done)))) .none))) (by kernel_rfl) (by kernel_rfl) (fun _ _ h => h) fun k hk => ?_; simp only [WOT, List.map_cons, List.map_nil, List.getD_cons_zero, List.getD_cons_succ]; simp -implicitDefEqProofs only [evr, id, seval, exc_one, res_one, fg_one, idn_one, par_one, resRow, res_ro, rExtract_tup, WOT, evn])
     repeat' (first
      | (with_reducible refine And.intro ?_ ?_)
      | rfl
      | (refine wcall_plain (identC F a) rfl (by rintro _ rfl; exact idAg_ok _) ?_; rintro r rfl; simp only [idAg, evr, id, seval, exc_one, res_one, fg_one, idn_one, par_one, List.append_nil, Int.toNat_zero, Nat.sub_self, Int.reduceToNat, resRow, res_ro, rExtract_tup])
      | (refine wcall_plain (identC F b) rfl (by rintro _ rfl; exact idAg_ok _) ?_; rintro r rfl; simp only [idAg, evr, id, seval, exc_one, res_one, fg_one, idn_one, par_one, List.append_nil, Int.toNat_zero, Nat.sub_self, Int.reduceToNat, resRow, res_ro, rExtract_tup])
      | (with_reducible intro b13))
     all_goals
      refine hk _ ?_
      simp only [thenK, Res.cs]
      refine ⟨b13, trivial, ?_⟩
      simp -implicitDefEqProofs only [evr, id, seval, exc_one, res_one, fg_one, idn_one, par_one, resRow, res_ro, rExtract_tup, evl, evn]
    rintro b13 -
    simp only [thenK]
    refine Sat.settleLast [.mq mb false [.u32, .u32] X.length (exKey X) (exVal X)] 13 rfl ?_
    rw [hxc]
    simp only [List.length_cons, List.length_nil, Nat.reduceAdd, Res.cs]
    (repeat refine Sat.seq ?_)
    (refine Sat.region_k fun k hk => ?_; simp -implicitDefEqProofs only [evr, id, seval, exc_one, res_one, fg_one, idn_one, par_one, resRow, res_ro, rExtract_tup, evn])
    refine lookMq (l := x.pr.keys) hT (mqIn_own (id := 0) (m := .tmp 75) rfl rfl) rfl (by rw [hx]; rfl) (excAg default) (by kernel_rfl) (fun R w j hj => by rcases (show j = 0 ∨ j = 1 ∨ j = 2 ∨ j = 3 ∨ j = 4 ∨ j = 5 ∨ j = 6 ∨ j = 7 by omega) with rfl | rfl | rfl | rfl | rfl | rfl | rfl | rfl <;> trivial) (show 77 < 116 by decide) (fun n hn hkn => ?_) (fun hno => ?_)
    ·obtain ⟨y, hy⟩ : ∃ y, y = X.getD n default := ⟨_, rfl⟩
     have hyv : exVal X n = .agg 8 fun j => (Exc.cs y).getD j default := by rw [hy]; rfl
     have hXn : X[n] = y := by rw [hy, List.getD_eq_getElem?_getD, List.getElem?_eq_getElem hn]; rfl
     have hyk : y.pr = x.pr := by
      have : exKey X n = x.pr.keys := hkn
      unfold exKey at this
      rw [← hy] at this
      exact parKeys_inj this
     rw [hyv]
     simp only [Exc.cs, evr, id, seval, exc_one, res_one, fg_one, idn_one, par_one, List.append_nil, Int.toNat_zero, Nat.sub_self, Int.reduceToNat, resRow, res_ro, rExtract_tup]
     intro b14
     (refine hk _ ?_; clear hk k; try show Sat _ _ _ _ _)
     refine Sat.settleLast [.mq mb false [.u32, .u32] X.length (exKey X) (exVal X)] 14 rfl ?_
     simp only [List.length_cons, List.length_nil, Nat.reduceAdd]
     (repeat refine Sat.seq ?_)
     refine Sat.joinK (ι := Bool) (fun q => ⟨116, [(96, .b q), (13, .el ⟨b13, 0, none⟩ 8 fun j => (Exc.cs x).getD j default), (12, .el ⟨b12, 0, none⟩ 2 fun j => [SV.i .u32 a.from_, .i .u32 b.from_].getD j default), (9, .el ⟨b9, 0, none⟩ 17 fun j => (Res.cs a).getD j default), (40, .i .i64 k), (39, .i .i64 g.rs.length), (38, .sl g.a g.rs.length g.cap 17 (resRd g.rs.toArray)), (34, .i .i64 j), (33, .i .i64 g.rs.length), (32, .sl g.a g.rs.length g.cap 17 (resRd g.rs.toArray)), (7, .sl g.a g.rs.length g.cap 17 (resRd g.rs.toArray)), (28, .i .i64 i), (27, .i .i64 gs.length), (26, .sl ga gs.length gc 1 (fgS gs)), (5, .mp 0 mb)], [.mq mb false [.u32, .u32] X.length (exKey X) (exVal X)]⟩) (fun q => q = excB x y) (fun hrest => ?_) ?_
     ·(refine Sat.region_tree (.keep [0, 1, 2, 3, 5, 8, 10, 4, 6, 9, 11] [7] (.one 7 (.one 12 (.one 13 (.one 14 (.one 15 (.one 16 .done))))))) (by kernel_rfl) (by kernel_rfl) (fun _ _ h => h) fun k hk => ?_; simp only [WOT, List.map_cons, List.map_nil, List.getD_cons_zero, List.getD_cons_succ]; simp -implicitDefEqProofs only [evr, id, seval, exc_one, res_one, fg_one, idn_one, par_one, resRow, res_ro, rExtract_tup, WOT, evn])
      refine wcall_plain (Contract.of_sim (args := [.agg 3 fun j => (Exc.cs (mkExc a b)).getD (5 + j) default, .agg 3 fun j => (Exc.cs y).getD (5 + j) default]) (compareIdC F b.idn y.s) ⟨sim_idn rfl rfl rfl, sim_idn rfl rfl rfl, trivial⟩) rfl (by rintro _ rfl; exact ok_plain rfl) ?_
      rintro r rfl
      simp -implicitDefEqProofs only [evr, id, seval, exc_one, res_one, fg_one, idn_one, par_one, resRow, res_ro, rExtract_tup, evn]
      refine wcall_plain (Contract.of_sim (args := [.agg 3 fun j => (Exc.cs (mkExc a b)).getD (2 + j) default, .agg 3 fun j => (Exc.cs y).getD (2 + j) default]) (compareIdC F a.idn y.f) ⟨sim_idn rfl rfl rfl, sim_idn rfl rfl rfl, trivial⟩) rfl (by rintro _ rfl; exact ok_plain rfl) ?_
      rintro r rfl
      simp -implicitDefEqProofs only [evr, id, seval, exc_one, res_one, fg_one, idn_one, par_one, resRow, res_ro, rExtract_tup, evn]
      intro bs
      refine wcall_plain (orC F (some ⟨bs, 0, none⟩) 2 [idnCmpI b.idn y.s, idnCmpI a.idn y.f] (by simp)) (by simp -implicitDefEqProofs only [evr, id, seval, exc_one, res_one, fg_one, idn_one, par_one, resRow, res_ro, rExtract_tup, intsRd, evn]) (by rintro _ rfl; exact ok_plain rfl) ?_
      rintro r rfl
      simp -implicitDefEqProofs only [evr, id, seval, exc_one, res_one, fg_one, idn_one, par_one, resRow, res_ro, rExtract_tup, evn]
      have e9 : excB x y = decide (orL [idnCmpI b.idn y.s, idnCmpI a.idn y.f] < 0) := by rw [hx]; rfl
      refine hk _ ((hrest _ rfl).le ?_)
      rw [e9, hxc]
      simp only [Res.cs]
      simp -implicitDefEqProofs only [evr, id, seval, exc_one, res_one, fg_one, idn_one, par_one, resRow, res_ro, rExtract_tup, evl, evn]
     rintro q rfl
     rw [hxc]
     simp only [Res.cs]
     refine Sat.cond_b rfl (fun h5 => ?_) (fun h5 => ?_)
     ·(repeat refine Sat.seq ?_)
      refine Sat.region_k fun kk hk => ?_
      simp -implicitDefEqProofs only [evr, id, seval, exc_one, res_one, fg_one, idn_one, par_one, resRow, res_ro, rExtract_tup, evn]
      refine updMq (l := x.pr.keys) hT rfl rfl rfl (by rw [hx]; rfl) rfl trivial (fun n2 hn2 hk2 => ?_) (fun hno => absurd hkn (hno n hn))
      have hn9 : n2 = n := by
       refine hB.inj hn2 hn ?_
       have e9 : exKey X n2 = exKey X n := hk2.trans hkn.symm
       unfold exKey at e9
       have := parKeys_inj e9
       rwa [List.getD_eq_getElem?_getD, List.getElem?_eq_getElem hn2, List.getD_eq_getElem?_getD, List.getElem?_eq_getElem hn] at this
      subst hn9
      simp -implicitDefEqProofs only [evr, id, seval, exc_one, res_one, fg_one, idn_one, par_one, resRow, res_ro, rExtract_tup, evn]
      refine hk _ ?_
      clear hk kk
      simp only [thenK, blockK]
      obtain ⟨X2, hX2⟩ : ∃ X2, X2 = X.set n2 x := ⟨_, rfl⟩
      have hB2 := (hB.set excB_irrefl excB_trans (y := x) hn2 (by rw [hXn]; exact hyk) (by rw [hXn]; exact h5)).congr hlast
      rw [← hX2] at hB2
      refine Sat.leOwn (own' := [.mq mb false [.u32, .u32] X2.length (exKey X2) (exVal X2)]) ⟨⟨rfl, rfl, rfl, by rw [hX2, List.length_set], fun q hq => ?_⟩, trivial⟩ ?_
      ·unfold exKey exVal
       rw [hX2]
       simp only []
       by_cases h9 : q = n2
       ·subst h9
        rw [getD_set_self hn2, if_pos rfl, ← hy, hyk, excAg, hxc]
        exact ⟨rfl, rfl⟩
       ·rw [getD_set_ne (Ne.symm h9), if_neg h9]
        exact ⟨rfl, rfl⟩
      refine Sat.region_k fun kk hk => ?_
      simp -implicitDefEqProofs only [evr, id, seval, exc_one, res_one, fg_one, idn_one, par_one, resRow, res_ro, rExtract_tup, e3, evn]
      refine hk _ ?_
      simp only [thenK, blockK]
      refine ⟨(k + 1, X2), ⟨by simp only; omega, hB2⟩, by simp only; omega, ?_⟩
      simp only [Res.cs]
      simp -implicitDefEqProofs only [evr, id, seval, exc_one, res_one, fg_one, idn_one, par_one, resRow, res_ro, rExtract_tup, evl, evn]
      try exact fun i hi => ⟨rfl, rfl⟩
     ·refine Sat.skip ?_
      simp only [thenK, blockK]
      obtain ⟨X2, hX2⟩ : ∃ X2, X2 = X := ⟨_, rfl⟩
      have hB2 := (hB.keep (y := x) hn (by rw [hXn]; exact hyk) (by rw [hXn]; exact h5)).congr hlast
      rw [← hX2] at hB2 ⊢
      refine Sat.region_k fun kk hk => ?_
      simp -implicitDefEqProofs only [evr, id, seval, exc_one, res_one, fg_one, idn_one, par_one, resRow, res_ro, rExtract_tup, e3, evn]
      refine hk _ ?_
      simp only [thenK, blockK]
      refine ⟨(k + 1, X2), ⟨by simp only; omega, hB2⟩, by simp only; omega, ?_⟩
      simp only [Res.cs]
      simp -implicitDefEqProofs only [evr, id, seval, exc_one, res_one, fg_one, idn_one, par_one, resRow, res_ro, rExtract_tup, evl, evn]
      try exact fun i hi => ⟨rfl, rfl⟩
    ·simp only [excAg, Exc.cs, evr, id, seval, exc_one, res_one, fg_one, idn_one, par_one, List.append_nil, Int.toNat_zero, Nat.sub_self, Int.reduceToNat, resRow, res_ro, rExtract_tup]
     intro b14
     (refine hk _ ?_; clear hk k; try show Sat _ _ _ _ _)
     refine Sat.settleLast [.mq mb false [.u32, .u32] X.length (exKey X) (exVal X)] 14 rfl ?_
     simp only [List.length_cons, List.length_nil, Nat.reduceAdd]
     (repeat refine Sat.seq ?_)
     refine Sat.joinK (ι := Bool) (fun q => ⟨116, [(96, .b q), (13, .el ⟨b13, 0, none⟩ 8 fun j => (Exc.cs x).getD j default), (12, .el ⟨b12, 0, none⟩ 2 fun j => [SV.i .u32 a.from_, .i .u32 b.from_].getD j default), (9, .el ⟨b9, 0, none⟩ 17 fun j => (Res.cs a).getD j default), (40, .i .i64 k), (39, .i .i64 g.rs.length), (38, .sl g.a g.rs.length g.cap 17 (resRd g.rs.toArray)), (34, .i .i64 j), (33, .i .i64 g.rs.length), (32, .sl g.a g.rs.length g.cap 17 (resRd g.rs.toArray)), (7, .sl g.a g.rs.length g.cap 17 (resRd g.rs.toArray)), (28, .i .i64 i), (27, .i .i64 gs.length), (26, .sl ga gs.length gc 1 (fgS gs)), (5, .mp 0 mb)], [.mq mb false [.u32, .u32] X.length (exKey X) (exVal X)]⟩) (fun q => q = true) (fun hrest => ?_) ?_
     ·(refine Sat.region_tree (.keep [0, 1, 2, 3, 5, 8, 10, 4, 6, 9, 11] [7] (.one 7 (.one 12 (.one 13 (.one 14 (.one 15 (.one 16 .done))))))) (by kernel_rfl) (by kernel_rfl) (fun _ _ h => h) fun k hk => ?_; simp only [WOT, List.map_cons, List.map_nil, List.getD_cons_zero, List.getD_cons_succ]; simp -implicitDefEqProofs only [evr, id, seval, exc_one, res_one, fg_one, idn_one, par_one, resRow, res_ro, rExtract_tup, WOT, evn])
      refine hk _ ((hrest _ rfl).le ?_)
      rw [hxc]
      simp only [Res.cs]
      simp -implicitDefEqProofs only [evr, id, seval, exc_one, res_one, fg_one, idn_one, par_one, resRow, res_ro, rExtract_tup, evl, evn]
     rintro q rfl
     rw [hxc]
     simp only [Res.cs]
     refine Sat.cond_b rfl (fun _ => ?_) (fun h5 => absurd h5 (by decide))
     (repeat refine Sat.seq ?_)
     refine Sat.region_k fun kk hk => ?_
     simp -implicitDefEqProofs only [evr, id, seval, exc_one, res_one, fg_one, idn_one, par_one, resRow, res_ro, rExtract_tup, evn]
     have hno2 : ∀ n2, n2 < X.length → exKey X n2 ≠ x.pr.keys := hno
     refine updMq (l := x.pr.keys) hT rfl rfl rfl (by rw [hx]; rfl) rfl trivial (fun n2 hn2 hk2 => absurd hk2 (hno2 n2 hn2)) (fun _ => ?_)
     simp -implicitDefEqProofs only [evr, id, seval, exc_one, res_one, fg_one, idn_one, par_one, resRow, res_ro, rExtract_tup, evn]
     refine hk _ ?_
     clear hk kk
     simp only [thenK, blockK]
     obtain ⟨X2, hX2⟩ : ∃ X2, X2 = X ++ [x] := ⟨_, rfl⟩
     have hB2 := (hB.new excB_irrefl (y := x) (fun e he h9 => by
      obtain ⟨q, hq, rfl⟩ := List.getElem_of_mem he
      refine hno2 q hq ?_
      unfold exKey
      rw [List.getD_eq_getElem?_getD, List.getElem?_eq_getElem hq]
      exact congrArg Par.keys h9)).congr hlast
     rw [← hX2] at hB2
     have hX2l : X2.length = X.length + 1 := by rw [hX2, List.length_append]; rfl
     refine Sat.leOwn (own' := [.mq mb false [.u32, .u32] X2.length (exKey X2) (exVal X2)]) ⟨⟨rfl, rfl, rfl, hX2l.symm, fun q hq => ?_⟩, trivial⟩ ?_
     ·unfold exKey exVal
      rw [hX2]
      simp only []
      by_cases h9 : q = X.length
      ·subst h9
       have e9 : (X ++ [x]).getD X.length default = x := by rw [List.getD_eq_getElem?_getD, List.getElem?_concat_length]; rfl
       rw [e9, if_pos rfl, if_pos rfl, excAg, hxc]
       exact ⟨rfl, rfl⟩
      ·have e9 : (X ++ [x]).getD q default = X.getD q default := by
        rw [List.getD_eq_getElem?_getD, List.getElem?_append_left (by omega), List.getD_eq_getElem?_getD]
       rw [e9, if_neg h9, if_neg h9]
       exact ⟨rfl, rfl⟩
     refine Sat.region_k fun kk hk => ?_
     simp -implicitDefEqProofs only [evr, id, seval, exc_one, res_one, fg_one, idn_one, par_one, resRow, res_ro, rExtract_tup, e3, evn]
     refine hk _ ?_
     simp only [thenK, blockK]
     refine ⟨(k + 1, X2), ⟨by simp only; omega, hB2⟩, by simp only; omega, ?_⟩
     simp only [Res.cs]
     simp -implicitDefEqProofs only [evr, id, seval, exc_one, res_one, fg_one, idn_one, par_one, resRow, res_ro, rExtract_tup, evl, evn]
     try exact fun i hi => ⟨rfl, rfl⟩
   have h3 : k = g.rs.length := by simp only [decide_eq_false_iff_not] at h; omega
   subst h3
   refine Sat.exit ?_
   simp only [thenK, blockK, reduceIte]
   refine Sat.region_k fun kk hk => ?_
   simp -implicitDefEqProofs only [evr, id, seval, exc_one, res_one, fg_one, idn_one, par_one, resRow, res_ro, rExtract_tup, e2, evn]
   refine hk _ ?_
   simp only [thenK, blockK]
   refine ⟨(j + 1, X), ⟨by simp only; omega, hB.congr fun x => ?_⟩, by simp only; omega, ?_⟩
   ·simp only
    rw [htk2, List.take_length, or_assoc]
    refine or_congr Iff.rfl ⟨fun h => ?_, fun ⟨a', h8, h9⟩ => ?_⟩
    ·rcases h with ⟨a', h8, h9⟩ | h
     ·exact ⟨a', List.mem_append.2 (.inl h8), h9⟩
     ·exact ⟨a, List.mem_append.2 (.inr (List.mem_singleton.2 rfl)), h⟩
    ·rcases List.mem_append.1 h8 with h8 | h8
     ·exact .inl ⟨a', h8, h9⟩
     ·rw [List.mem_singleton] at h8
      subst h8
      exact .inr h9
   ·simp -implicitDefEqProofs only [evr, id, seval, exc_one, res_one, fg_one, idn_one, par_one, resRow, res_ro, rExtract_tup, evl, evn]
    try exact fun i hi => ⟨rfl, rfl⟩
  have h2 : j = g.rs.length := by simp only [decide_eq_false_iff_not] at h; omega
  subst h2
  refine Sat.exit ?_
  simp only [thenK, blockK, reduceIte]
  refine Sat.region_k fun kk hk => ?_
  simp -implicitDefEqProofs only [evr, id, seval, exc_one, res_one, fg_one, idn_one, par_one, resRow, res_ro, rExtract_tup, e1, evn]
  refine hk _ ?_
  simp only [thenK, blockK]
  refine ⟨(i + 1, X), ⟨by simp only; omega, hB.congr fun x => ?_⟩, by simp only; omega, ?_⟩
  ·simp only
   rw [htk, List.take_length]
   refine ⟨fun h => ?_, fun ⟨g', h8, h9⟩ => ?_⟩
   ·rcases h with ⟨g', h8, h9⟩ | h
    ·exact ⟨g', List.mem_append.2 (.inl h8), h9⟩
    ·exact ⟨g, List.mem_append.2 (.inr (List.mem_singleton.2 rfl)), h⟩
   ·rcases List.mem_append.1 h8 with h8 | h8
    ·exact .inl ⟨g', h8, h9⟩
    ·rw [List.mem_singleton] at h8
     subst h8
     exact .inr h9
  ·simp -implicitDefEqProofs only [evr, id, seval, exc_one, res_one, fg_one, idn_one, par_one, resRow, res_ro, rExtract_tup, evl, evn]
   try exact fun i hi => ⟨rfl, rfl⟩
 have h1 : i = gs.length := by simp only [decide_eq_false_iff_not] at h; omega
 subst h1
 rw [List.take_length] at hB
 refine Sat.exit ?_
 simp only [thenK, blockK, reduceIte]
 have hB2 : BestI Exc.pr excB (ExcC xs) X := hB.congr fun x => by
  rw [← flows_exc hfl]
  exact ⟨fun ⟨g, h8, h9⟩ => ⟨g.rs, List.mem_map.2 ⟨g, h8, rfl⟩, h9⟩, fun ⟨g, h8, h9⟩ => by
   obtain ⟨g', h7, rfl⟩ := List.mem_map.1 h8
   exact ⟨g', h7, h9⟩⟩
 have hXl := excC_len hl hB2
 clear hB
 refine Sat.settleMap 5 rfl rfl ?_
 simp only [List.set_cons_zero]
 (repeat refine Sat.seq ?_)
 (refine Sat.region_k fun k hk => ?_; simp -implicitDefEqProofs only [evr, id, seval, exc_one, res_one, fg_one, idn_one, par_one, resRow, res_ro, rExtract_tup, evn]; refine hk _ ?_; clear hk k; try show Sat _ _ _ _ _)
 (repeat refine Sat.seq ?_)
 refine Sat.region_k fun kk hk => ?_
 simp -implicitDefEqProofs only [evr, id, seval, exc_one, res_one, fg_one, idn_one, par_one, resRow, res_ro, rExtract_tup, evn]
 refine rangeMq hT (mqIn_rm rfl) (show 104 < 116 by decide) fun it => ?_
 simp -implicitDefEqProofs only [evr, id, seval, exc_one, res_one, fg_one, idn_one, par_one, resRow, res_ro, rExtract_tup, evn]
 refine hk _ ?_
 clear hk kk
 simp only [thenK]
 refine Sat.adopt 16 29 8 (excRd #[]) rfl ?_
 have hkv : ∀ i, (parAg (X.getD i default).pr).den = keyV false [.u32, .u32] (exKey X i) := fun i => par_den _
 refine Sat.block ?_
 refine Sat.loop (ι := List Nat × Option Addr × Nat) (fun z => ⟨116, [(104, .v (.pointer (some ⟨it, 0, none⟩))), (16, .os 2 z.2.1 z.1.length z.2.2), (5, .rm mb false [.u32, .u32] X.length (exKey X) (exVal X))], [.gone, .res it (IterMap it mb X.length z.1), .row z.2.1 29 z.1.length z.2.2 8 (excRd (z.1.map fun i => X.getD i default).toArray)]⟩)
  (fun z => z.1.Nodup ∧ ∀ i ∈ z.1, i < X.length) (fun z => X.length - z.1.length) ([], none, 0) ⟨List.nodup_nil, fun i hi => (by cases hi)⟩ (by
   simp only [List.map_nil, List.length_nil]
   simp -implicitDefEqProofs only [evr, id, seval, exc_one, res_one, fg_one, idn_one, par_one, resRow, res_ro, rExtract_tup, evl, evn]
   try exact own_le _) ?_
 rintro ⟨seen, oa, oc⟩ ⟨hnd, hsl⟩
 simp only at hnd hsl ⊢
 have hsln := seen_lenA hnd hsl
 (repeat refine Sat.seq ?_)
 refine Sat.region_k fun kk hk => ?_
 simp -implicitDefEqProofs only [evr, id, seval, exc_one, res_one, fg_one, idn_one, par_one, resRow, res_ro, rExtract_tup, evn]
 refine nextMq (oid := 1) rfl rfl rfl (mqIn_rm (m := .tmp 5) rfl) (fun i => parAg (X.getD i default).pr) (fun i _ => hkv i) (fun i R w => par_ok _ R w) (show 105 < 116 by decide) (fun i hi hs => ?_) (fun ha => ?_)
 ·simp -implicitDefEqProofs only [evr, id, seval, exc_one, res_one, fg_one, idn_one, par_one, resRow, res_ro, rExtract_tup, evn]
  refine hk _ ?_
  clear hk kk
  have hnd2 : (seen ++ [i]).Nodup := by
   rw [List.nodup_append]
   exact ⟨hnd, by simp, fun a ha b hb => by rw [List.mem_singleton] at hb; subst hb; exact fun e => hs (e ▸ ha)⟩
  have hsl2 : ∀ j ∈ seen ++ [i], j < X.length := fun j hj => by
   rcases List.mem_append.1 hj with hj | hj
   ·exact hsl j hj
   ·rw [List.mem_singleton] at hj; subst hj; exact hi
  have hlen := seen_lenA hnd2 hsl2
  rw [List.length_append, List.length_singleton] at hlen
  obtain ⟨y, hy⟩ : ∃ y, y = X.getD i default := ⟨_, rfl⟩
  have hmap : (seen ++ [i]).map (fun i => X.getD i default) = seen.map (fun i => X.getD i default) ++ [y] := by rw [List.map_append, hy]; rfl
  simp only [thenK]
  (repeat refine Sat.seq ?_)
  refine Sat.cond_tt rfl ?_
  refine Sat.skip ?_
  simp only [thenK]
  (repeat refine Sat.seq ?_)
  refine Sat.block ?_
  (repeat refine Sat.seq ?_)
  refine Sat.region_k fun kk hk => ?_
  simp -implicitDefEqProofs only [evr, id, seval, exc_one, res_one, fg_one, idn_one, par_one, resRow, res_ro, rExtract_tup, evn]
  refine entryIterMq (oid := 1) (seen := seen) rfl rfl hi (mqIn_rm (m := .tmp 5) rfl) (fun i => parAg (X.getD i default).pr) (hkv i) (fun R w => par_ok _ R w) (show 107 < 116 by decide) ?_
  have hyv : exVal X i = .agg 8 fun j => (Exc.cs y).getD j default := by rw [hy]; rfl
  rw [hyv]
  simp only [parAg, Par.cs, Exc.cs, evr, id, seval, exc_one, res_one, fg_one, idn_one, par_one, List.append_nil, Int.toNat_zero, Nat.sub_self, Int.reduceToNat, resRow, res_ro, rExtract_tup]
  intro b18
  refine hk _ ?_
  clear hk kk
  simp only [thenK]
  refine Sat.settleLast [.gone, .res it (IterMap it mb X.length (seen ++ [i])), .row oa 29 seen.length oc 8 (excRd (seen.map fun i => X.getD i default).toArray)] 18 rfl ?_
  simp only [List.length_cons, List.length_nil, Nat.reduceAdd]
  refine Sat.region_k fun kk hk => ?_
  simp -implicitDefEqProofs only [evr, id, seval, exc_one, res_one, fg_one, idn_one, par_one, resRow, res_ro, rExtract_tup, evn]
  refine fun b0 => ⟨⟨by unfold maxLen; omega, by omega⟩, fun a2 c2 => hk _ ?_⟩
  clear hk kk
  simp only [thenK, blockK]
  refine ⟨(seen ++ [i], a2, c2), ⟨hnd2, hsl2⟩, by simp only [List.length_append, List.length_singleton]; omega, ?_⟩
  simp only [hmap, List.length_append, List.length_singleton]
  simp -implicitDefEqProofs only [evr, id, seval, exc_one, res_one, fg_one, idn_one, par_one, resRow, res_ro, rExtract_tup, evl, evn]
  have h9 := exc_app (ys := seen.map fun i => X.getD i default) (x := y) rfl
  rw [List.length_map] at h9
  first | exact h9 | exact ⟨own_le _, h9⟩
 ·simp -implicitDefEqProofs only [evr, id, seval, exc_one, res_one, fg_one, idn_one, par_one, resRow, res_ro, rExtract_tup, evn]
  refine hk _ ?_
  clear hk kk
  simp only [thenK]
  (repeat refine Sat.seq ?_)
  refine Sat.cond_ff rfl ?_
  refine Sat.exit ?_
  simp only [thenK, blockK, reduceIte]
  obtain ⟨L, hL⟩ : ∃ L, L = seen.map fun i => X.getD i default := ⟨_, rfl⟩
  have hLp : L.Perm X := by rw [hL]; exact seen_permA hnd hsl ha
  have hLl : seen.length = L.length := by rw [hL, List.length_map]
  rw [← hL, hLl]
  have hLl2 : L.length ≤ 262144 := by omega
  (repeat refine Sat.seq ?_)
  refine Sat.region_k fun kk hk => ?_
  simp -implicitDefEqProofs only [evr, id, seval, exc_one, res_one, fg_one, idn_one, par_one, resRow, res_ro, rExtract_tup, evn]
  refine wcall_mut 2 (excSortC F excLt_swo excCmp1 oa oc L.length (by omega) L.toArray (by simp)) rfl rfl ?_
  rintro r o1 ⟨rfl, d', hd', ⟨hperm, hsort⟩, rfl⟩
  simp only [excRow, evr, id, seval, exc_one, res_one, fg_one, idn_one, par_one, List.append_nil, Int.toNat_zero, Nat.sub_self, Int.reduceToNat, resRow, res_ro, rExtract_tup]
  refine hk _ ?_
  clear hk kk
  simp only [thenK]
  obtain ⟨hp2, hs2⟩ := exc_sorted hd' hperm hsort
  have hes : ExcOf xs d'.toList := hB2.sorted (hp2.trans hLp) hs2
  have hdl : L.length = d'.toList.length := by rw [Array.length_toList]; exact hd'.symm
  (repeat refine Sat.seq ?_)
  (refine Sat.region_k fun k hk => ?_; simp -implicitDefEqProofs only [evr, id, seval, exc_one, res_one, fg_one, idn_one, par_one, resRow, res_ro, rExtract_tup, evn]; refine hk _ ?_; clear hk k; try show Sat _ _ _ _ _)
  refine Sat.ret ?_
  simp only [Tryz.results12, evr, id, seval, exc_one, res_one, fg_one, idn_one, par_one, List.append_nil, Int.toNat_zero, Nat.sub_self, Int.reduceToNat, resRow, res_ro, rExtract_tup]
  exact .inr ⟨hb, _, _, d'.toList, hes, by omega, by rw [hdl]⟩
end Go.Proofs.YtfeiiadligkamaaGreat
