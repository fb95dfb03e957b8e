/- Package natural, for the evaluator: its contracts, out of the walks. -/
import Derived.Test.YtpkmnggfomllhaaDoorEv
import Derived.Test.YtpkmnggfomllhaaDoorZCmq
import Derived.Test.YtpkmnggfomllhaaDoorZTrimRef
set_option linter.unusedSimpArgs false
set_option linter.unusedVariables false
namespace Go.Proofs.YtpkmnggfomllhaaDoor
open Eng Lmb Go.RowKit
def Nats (s : SV) (n : Nat) : Prop := ∃ (a : Option Addr) (cap sz : Nat) (rd : Nat → Nat → SV) (xs : List Int), s = .sl a xs.length cap sz rd ∧ (xs.length = 0 ∨ sz = 1) ∧ (∀ i, i < xs.length → rd i 0 = .i .i64 (xs.getD i 0)) ∧ Dig xs n
abbrev zoneOf (R : Nat → Prop) (w : World) : Zn.Zone := ⟨fun b => R b ∨ w.heap.size ≤ b, w.heap.size, fun b h => .inr h⟩
theorem nat_to {R : Nat → Prop} {w : World} {s : SV} {n : Nat} (hs : s.ok R w) (hn : Nats s n) (hR : ∀ b, R b → b < w.heap.size) : @Zn.NatAt (zoneOf R w) w s.den n := by
  obtain ⟨a, cap, sz, rd, xs, rfl, hz, hrd, hd⟩ := hn
  obtain ⟨h1, h2, h3⟩ := hs
  refine ⟨xs, ⟨a, cap, rfl, h1, ⟨h2, Nat.le_refl _, ?_⟩, ?_⟩, hd⟩
  · rcases h3 with h3 | ⟨blk, off, rfl, hr, _⟩
    · exact .inl h3
    · exact .inr fun x hx => by cases hx; exact .inl hr
  · rcases h3 with h3 | ⟨blk, off, rfl, hr, hc⟩
    · exact .inl h3
    rcases hz with hz | rfl
    · exact .inl hz
    · refine .inr ⟨blk, off, rfl, hR _ hr, fun i hi => ?_⟩
      have := (hc i 0 hi (by omega)).1
      rw [hrd i hi, Nat.mul_one, Nat.add_zero] at this
      exact this
theorem nat_from {R : Nat → Prop} {w w' : World} {v : Value} {n : Nat} (h : @Zn.NatAt (zoneOf R w) w' v n) : ∃ s, s.den = v ∧ Nats s n ∧ s.ok (fun b => R b ∨ (w.heap.size ≤ b ∧ b < w'.heap.size)) w' := by
  obtain ⟨xs, ⟨a, cap, rfl, h1, ⟨h2, _, hz⟩, h3⟩, hd⟩ := h
  refine ⟨.sl a xs.length cap 1 (fun i _ => .i .i64 (xs.getD i 0)), rfl, ⟨a, cap, 1, _, xs, rfl, .inr rfl, fun i _ => rfl, hd⟩, h1, h2, ?_⟩
  rcases h3 with h3 | ⟨b, off, rfl, hb, hc⟩
  · exact .inl h3
  · by_cases h0 : xs.length = 0
    · exact .inl h0
    · refine .inr ⟨b, off, rfl, ?_, fun i j hi hj => ⟨?_, rfl, trivial⟩⟩
      · rcases hz with hz | hz
        · exact absurd hz h0
        · rcases hz _ rfl with hr | hr
          · exact .inl hr
          · exact .inr ⟨hr, hb⟩
      · obtain rfl : j = 0 := by omega
        rw [Nat.mul_one, Nat.add_zero]
        exact hc i hi
theorem ofCalls {F : Frm} {P : Program} {f : FuncId} {fn : Func} {c : Code} {args : List SV} {post : SV → Prop} (hf : P.funcs[f]? = some fn) (hb : fn.body = some c) (hname : (fn.name == "runtime.NumGoroutine") = false)
    (h : ∀ (R : Nat → Prop) (w : World), (∀ s ∈ args, s.ok R w) → (∀ b, R b → b < w.heap.size) → Calls P f (args.map SV.den).toArray w fun e w' => ∃ r, e = .returned r.den ∧ post r ∧ r.ok (fun b => R b ∨ (w.heap.size ≤ b ∧ b < w'.heap.size)) w' ∧ Below w.heap.size w w') :
    Contract F P f args post := by
  refine ⟨fun vs w => ?_, fun R w hinv hargs hR => ?_⟩
  · have hn : ¬ fn.name = "runtime.NumGoroutine" := by simpa using hname
    simp [callFunc, hf, hn, hb]
  · refine (h R w hargs fun b hb => (hR b hb).1).mono ?_
    rintro e w' ⟨r, he, hp, hok, hbel⟩
    exact ⟨r, he, hp, hok, ⟨hbel.os, hbel.tape, hbel.output, hbel.size, fun b hb _ => hbel.block b hb⟩, F.stab w w' w.heap.size hinv (fun b hm => F.lt w b hinv hm) fun b hb => hbel.block b hb⟩
theorem tup2_ok {R : Nat → Prop} {w : World} {s t : SV} (hs : s.ok R w) (ht : t.ok R w) : (tupL [s, t]).ok R w := by
  intro j hj
  match j, hj with
  | 0, _ => exact hs
  | 1, _ => exact ht
theorem tup3_ok {R : Nat → Prop} {w : World} {s t u : SV} (hs : s.ok R w) (ht : t.ok R w) (hu : u.ok R w) : (tupL [s, t, u]).ok R w := by
  intro j hj
  match j, hj with
  | 0, _ => exact hs
  | 1, _ => exact ht
  | 2, _ => exact hu
theorem Nats.nil {sz : Nat} {rd : Nat → Nat → SV} : Nats (.sl none 0 0 sz rd) 0 := ⟨none, 0, sz, rd, [], rfl, .inl rfl, fun i hi => absurd hi (Nat.not_lt_zero _), Dig.nil⟩
def natRes (n : Nat) (r : SV) : Prop := ∃ s, r = tupL [s, .i .i64 0] ∧ Nats s n
section
variable (F : Frm) {sa sb : SV} {m n : Nat}
theorem addC (ha : Nats sa m) (hb : Nats sb n) (h : ((m + n : Nat) : Int) < pw 256) : Contract F Tryd.prog 11 [sa, sb] (natRes (m + n)) := by
  refine ofCalls Tryd.func11 rfl (by kernel_rfl) fun R w hargs hR => ?_
  refine (@Zn.add_nat (zoneOf R w) _ _ _ _ w (nat_to (hargs sa (by simp)) ha hR) (nat_to (hargs sb (by simp)) hb hR) h).mono ?_
  rintro e w' ⟨v, rfl, hv, hbel⟩
  obtain ⟨s, rfl, hs, hok⟩ := nat_from hv
  exact ⟨tupL [s, .i .i64 0], rfl, ⟨s, rfl, hs⟩, tup2_ok hok trivial, hbel⟩
theorem natCmpC (ha : Nats sa m) (hb : Nats sb n) : Contract F Tryd.prog 10 [sa, sb] (fun r => r = .i .i64 (cmpI m n)) := by
  refine ofCalls Tryd.func10 rfl (by kernel_rfl) fun R w hargs hR => ?_
  refine (@Zn.compare_nat (zoneOf R w) _ _ _ _ w (nat_to (hargs sa (by simp)) ha hR) (nat_to (hargs sb (by simp)) hb hR)).mono ?_
  rintro e w' ⟨rfl, d, rfl⟩
  exact ⟨.i .i64 (cmpI m n), rfl, rfl, trivial, @Zn.Below.drewN' w d⟩
end
theorem smallC (F : Frm) {sa : SV} {n : Nat} (c : Nat) (ha : Nats sa n) (hn : (n : Int) < pw 256) (h0 : 1 ≤ c) (h1 : c ≤ 1073741824) : Contract F Tryd.prog 14 [sa, .i .i64 c] (fun r => ∃ s, r = tupL [s, .i .i64 (n % c : Nat)] ∧ Nats s (n / c)) := by
  refine ofCalls Tryd.func14 rfl (by kernel_rfl) fun R w hargs hR => ?_
  refine (@Zn.small_nat (zoneOf R w) _ n c c w (nat_to (hargs sa (by simp)) ha hR) hn rfl (by omega) (by omega)).mono ?_
  rintro e w' ⟨v, rfl, hv, hbel⟩
  obtain ⟨s, rfl, hs, hok⟩ := nat_from hv
  exact ⟨tupL [s, .i .i64 (n % c : Nat)], rfl, ⟨s, rfl, hs⟩, tup2_ok hok trivial, hbel⟩
def Ints (s : SV) (xs : List Int) : Prop := ∃ (a : Option Addr) (cap sz : Nat) (rd : Nat → Nat → SV), s = .sl a xs.length cap sz rd ∧ (xs.length = 0 ∨ sz = 1) ∧ (∀ i, i < xs.length → rd i 0 = .i .i64 (xs.getD i 0))
theorem Nats.ints {s : SV} {n : Nat} (h : Nats s n) : ∃ xs, Ints s xs ∧ Dig xs n := by
  obtain ⟨a, cap, sz, rd, xs, e, hz, hr, hd⟩ := h
  exact ⟨xs, ⟨a, cap, sz, rd, e, hz, hr⟩, hd⟩
theorem Ints.nats {s : SV} {xs : List Int} {n : Nat} (h : Ints s xs) (hd : Dig xs n) : Nats s n := by
  obtain ⟨a, cap, sz, rd, e, hz, hr⟩ := h
  exact ⟨a, cap, sz, rd, xs, e, hz, hr, hd⟩
theorem rd_to {R : Nat → Prop} {w : World} {s : SV} {xs : List Int} (hs : s.ok R w) (hn : Ints s xs) (hR : ∀ b, R b → b < w.heap.size) : @Zn.Rd (zoneOf R w) .i64 w s.den xs := by
  obtain ⟨a, cap, sz, rd, rfl, hz, hrd⟩ := hn
  obtain ⟨h1, h2, h3⟩ := hs
  refine ⟨a, cap, rfl, h1, ⟨h2, Nat.le_refl _, ?_⟩, ?_⟩
  · rcases h3 with h3 | ⟨blk, off, rfl, hr, _⟩
    · exact .inl h3
    · exact .inr fun x hx => by cases hx; exact .inl hr
  · rcases h3 with h3 | ⟨blk, off, rfl, hr, hc⟩
    · exact .inl h3
    rcases hz with hz | rfl
    · exact .inl hz
    · refine .inr ⟨blk, off, rfl, hR _ hr, fun i hi => ?_⟩
      have := (hc i 0 hi (by omega)).1
      rw [hrd i hi, Nat.mul_one, Nat.add_zero] at this
      exact this
theorem refTrimC (F : Frm) {s : SV} {xs : List Int} (h : Ints s xs) (hl : Limbs xs) : Contract F Tryd.prog 13 [s] (fun r => Nats r (val xs).toNat) := by
  refine ofCalls Tryd.func13 rfl (by kernel_rfl) fun R w hargs hR => ?_
  refine (@Zn.ref_trim_rd (zoneOf R w) _ _ w (rd_to (hargs s (by simp)) h hR)).mono ?_
  rintro e w' ⟨v, rfl, hv, rfl⟩
  obtain ⟨t, rfl, ht, hok⟩ := nat_from (R := R) (w := w) (w' := w) (n := (val xs).toNat) ⟨_, hv, dig_trim hl⟩
  exact ⟨t, rfl, ht, hok, Below.refl _ _⟩
theorem getD_snoc_lt {os : List Int} {x : Int} {p : Nat} (h : p < os.length) : (os ++ [x]).getD p 0 = os.getD p 0 := by
  simp [List.getD, List.getElem?_append_left h]
theorem getD_snoc_eq {os : List Int} {x : Int} : (os ++ [x]).getD os.length 0 = x := by
  simp [List.getD]
theorem rd_snoc {os : List Int} {x y : Int} {n : Nat} (hn : os.length = n) (hx : y = x) : rdEq (n + 1) 1 (rdCat n (fun p _ => .i .i64 (os.getD p 0)) (rdL [.i .i64 y] 1)) (fun p _ => .i .i64 ((os ++ [x]).getD p 0)) := by
  subst hn
  refine rdEq_one (fun p j hp hj => ?_) ?_
  · show SV.i .i64 _ = SV.i .i64 _
    rw [getD_snoc_lt hp]
  · show SV.i .i64 _ = SV.i .i64 _
    rw [getD_snoc_eq, hx]
theorem rd_zero {n N : Nat} {rd : Nat → Nat → SV} (h : ∀ p, rd p 0 = .i .i64 0) : rdEq n 1 rd (fun p _ => .i .i64 ((List.replicate N 0).getD p 0)) := by
  intro p j hp hj
  obtain rfl : j = 0 := by omega
  rw [h p]
  show SV.i .i64 0 = SV.i .i64 _
  congr 1
  simp only [List.getD, List.getElem?_replicate]
  split <;> rfl
theorem rd_set {qs : List Int} {n ix : Nat} {x y : Int} (hx : y = x) (h : ix < qs.length) : rdEq n 1 (rdSet (fun p _ => .i .i64 (qs.getD p 0)) ix 0 [.i .i64 y]) (fun p _ => .i .i64 ((qs.set ix x).getD p 0)) := by
  subst hx
  intro p j hp hj
  obtain rfl : j = 0 := by omega
  unfold rdSet
  show (if _ then _ else _) = SV.i .i64 _
  rw [getD_set _ _ _ h]
  by_cases hpx : p = ix
  · subst hpx
    simp
  · rw [if_neg (by intro h; exact hpx h.1), if_neg (fun h => hpx h.symm)]
theorem Nats.len {a : Option Addr} {len cap sz n : Nat} {rd : Nat → Nat → SV} (h : Nats (.sl a len cap sz rd) n) : (0 < (len : Int)) = (0 < n) := by
  obtain ⟨a', cap', sz', rd', xs, he, _, _, hd⟩ := h
  simp only [SV.sl.injEq] at he
  have := hd.len_zero
  apply propext
  rw [he.2.1]
  omega
theorem Nats.zero {a : Option Addr} {len cap sz n : Nat} {rd : Nat → Nat → SV} (h : Nats (.sl a len cap sz rd) n) : ((len : Int) == 0) = decide (n = 0) := by
  have := h.len
  by_cases h0 : n = 0
  · rw [decide_eq_true h0]
    have : ¬ 0 < (len : Int) := by rw [this]; omega
    have : (len : Int) = 0 := by omega
    rw [this]; rfl
  · rw [decide_eq_false h0, beq_eq_false_iff_ne]
    have : 0 < (len : Int) := by rw [this]; omega
    omega
theorem Nats.len0 {a : Option Addr} {len cap sz n : Nat} {rd : Nat → Nat → SV} (h : Nats (.sl a len cap sz rd) n) : ((len : Int) == 0) = decide (n = 0) := by
  have := h.len
  have e : (0 < (len : Int)) ↔ (0 < n) := by rw [this]
  by_cases hn : n = 0
  · rw [decide_eq_true hn, beq_iff_eq]; omega
  · rw [decide_eq_false hn, beq_eq_false_iff_ne]; omega
theorem Eng.Sat.know_sz {P : Program} {F : Frm} {c : Code} {K : Exit → St → Prop} {n : Nat} {env : List (Nat × SV)} {own : List Eng.Own} (t : Nat) {a : Option Addr} {len cap sz : Nat} {rd : Nat → Nat → SV} (hl : look env t = some (.sl a len cap sz rd)) (hz : len = 0 ∨ sz = 1)
    (h : Sat P F c ⟨n, (t, .sl a len cap 1 rd) :: env, own⟩ K) : Sat P F c ⟨n, env, own⟩ K := by
  rintro R0 w0 ac w ⟨ob, R, hr⟩
  refine h R0 w0 ac w ⟨ob, R, ?_⟩
  have hok := (hr.env t _ hl).2
  have hden := (hr.env t _ hl).1
  obtain ⟨h1, h2, h3⟩ := hok
  refine ⟨hr.defers, ?_, hr.size, hr.own, hr.dist, hr.evo, hr.inv, hr.obM, hr.gb, hr.obw, hr.rr, hr.r0⟩
  intro u s2 hu
  simp only [look] at hu
  by_cases e : t = u
  · rw [if_pos e, Option.some.injEq] at hu
    subst e hu
    refine ⟨hden, h1, h2, ?_⟩
    rcases hz with hz | rfl
    · exact .inl hz
    · exact h3
  · rw [if_neg e] at hu
    exact hr.env u s2 hu
theorem Nats.sz {a : Option Addr} {len cap sz n : Nat} {rd : Nat → Nat → SV} (h : Nats (.sl a len cap sz rd) n) : (len = 0 ∨ sz = 1) ∧ Nats (.sl a len cap 1 rd) n := by
  obtain ⟨a', cap', sz', rd', xs, e, hz, hr, hd⟩ := h
  simp only [SV.sl.injEq] at e
  obtain ⟨rfl, rfl, rfl, rfl, rfl⟩ := e
  exact ⟨hz, a, cap, 1, rd, xs, rfl, .inr rfl, hr, hd⟩
theorem sameNatC (F : Frm) {sa sb : SV} {m n : Nat} (ha : Nats sa m) (hb : Nats sb n) : Contract F Tryd.prog 9 [sa, sb] (fun r => r = .b (decide (m = n))) := by
  refine ofCalls Tryd.func9 rfl (by kernel_rfl) fun R w hargs hR => ?_
  refine (@Zn.same_nat (zoneOf R w) _ _ _ _ w (nat_to (hargs sa (by simp)) ha hR) (nat_to (hargs sb (by simp)) hb hR)).mono ?_
  rintro e w' ⟨rfl, d, rfl⟩
  exact ⟨.b (decide (m = n)), rfl, rfl, trivial, @Zn.Below.drewN' w d⟩
theorem resultC (F : Frm) {s : SV} {xs : List Int} (h : Ints s xs) (hl : Limbs xs) (hlen : (trim xs).length ≤ 256) : Contract F Tryd.prog 20 [s] (natRes (val xs).toNat) := by
  refine ofCalls Tryd.func20 rfl (by kernel_rfl) fun R w hargs hR => ?_
  refine (@Zn.result_rd (zoneOf R w) _ _ w (rd_to (hargs s (by simp)) h hR) hlen).mono ?_
  rintro e w' ⟨v, rfl, hv, rfl⟩
  obtain ⟨t, rfl, ht, hok⟩ := nat_from (R := R) (w := w) (w' := w) (n := (val xs).toNat) ⟨_, hv, dig_trim hl⟩
  exact ⟨tupL [t, .i .i64 0], rfl, ⟨t, rfl, ht⟩, tup2_ok hok trivial, Below.refl _ _⟩
end Go.Proofs.YtpkmnggfomllhaaDoor
