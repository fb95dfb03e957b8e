/- strconv.Atoi of a short decimal numeral, by the evaluator. -/
import Derived.Test.YtceacooambpkdaaDoorShelf
import Derived.Test.YtceacooambpkdaaDoorAdrE
import Derived.Test.YtceacooambpkdaaDoorWalkE
import Derived.Lib.AtoiErrMem
set_option linter.unusedSimpArgs false
set_option linter.unusedVariables false
namespace Go.Proofs.YtceacooambpkdaaDoor
open Go.RowKit Eng

theorem ofCalls1 {F : Frm} {P : Program} {f : FuncId} {fn : Func} {c : Code} {args : List SV} {post : SV → Prop} (hf : P.funcs[f]? = some fn) (hb : fn.body = some c) (hname : (fn.name == "runtime.NumGoroutine") = false)
    (h : ∀ (R : Nat → Prop) (w : World), (∀ s ∈ args, s.ok R w) → (∀ b, R b → b < w.heap.size) → Calls P f (args.map SV.den).toArray w fun e w' => ∃ r, e = .returned r.den ∧ post r ∧ r.ok (fun b => R b ∨ (w.heap.size ≤ b ∧ b < w'.heap.size)) w' ∧ Below w.heap.size w w') :
    Contract F P f args post := by
  refine ⟨fun vs w => ?_, fun R w hinv hargs hR => ?_⟩
  · have hn : ¬ fn.name = "runtime.NumGoroutine" := by simpa using hname
    simp [callFunc, hf, hn, hb]
  · refine (h R w hargs fun b hb => (hR b hb).1).mono ?_
    rintro e w' ⟨r, he, hp, hok, hbel⟩
    exact ⟨r, he, hp, hok, ⟨hbel.os, hbel.tape, hbel.output, hbel.size, fun b hb _ => hbel.block b hb⟩, F.stab w w' w.heap.size hinv (fun b hm => F.lt w b hinv hm) fun b hb => hbel.block b hb⟩

theorem tup2_ok1 {R : Nat → Prop} {w : World} {s t : SV} (hs : s.ok R w) (ht : t.ok R w) : (tupL [s, t]).ok R w := by
  intro j hj
  match j, hj with
  | 0, _ => exact hs
  | 1, _ => exact ht
theorem atoiC (F : Frm) (s : ByteArray) (n : Int) (hl : s.size ≤ 18) (h : Lib.atoi s.data.toList = some n) : Contract F Tryd.prog 65 [.v (.string s)] (fun r => r = tupL [.i .i64 n, .v .nilIface]) := by
  refine ofCalls1 Tryd.func65 rfl (by kernel_rfl) fun R w hs hR => ?_
  refine (Tryd.strconv_Atoi s n hl h w).mono ?_
  rintro e w' ⟨rfl, t, rfl⟩
  exact ⟨_, rfl, rfl, tup2_ok1 trivial trivial, Lib.bytesWorld_below _ _ _⟩
theorem below_refl (w : World) : Below w.heap.size w w := ⟨rfl, rfl, rfl, Nat.le_refl _, fun _ _ => rfl⟩
theorem itoaSmallC (F : Frm) (i : Nat) (hi : i < 100) : Contract F Tryd.prog 44 [.i .i64 i] (fun r => r = .v (.string ⟨(Lib.decDigits i).toArray⟩)) := by
  refine ofCalls1 Tryd.func44 rfl (by kernel_rfl) fun R w hs hR => ?_
  refine (Tryd.strconv_Itoa_small i hi w).mono ?_
  rintro e w' ⟨rfl, rfl⟩
  exact ⟨_, rfl, rfl, trivial, below_refl _⟩
theorem indexOneC (F : Frm) (s : ByteArray) (c : UInt8) : Contract F Tryd.prog 73 [.v (.string s), .v (.string ⟨#[c]⟩)] (fun r => r = .i .i64 (Lib.indexByte s.data.toList c)) := by
  refine ofCalls1 Tryd.func73 rfl (by kernel_rfl) fun R w hs hR => ?_
  refine (Tryd.stringslite_Index_one s c w).mono ?_
  rintro e w' ⟨rfl, rfl⟩
  exact ⟨_, rfl, rfl, trivial, below_refl _⟩
theorem joinC (F : Frm) {a : Option Addr} {len cap : Nat} {rd : Nat → Nat → SV} (xs : List ByteArray) (sep : ByteArray) (hl : xs.length = len) (hrd : ∀ (j : Nat) x, xs[j]? = some x → rd j 0 = .v (.string x)) (h0 : 0 < len) (hN : len ≤ 140737488355328) (hlen : (Lib.join (xs.map (·.data.toList)) sep.data.toList).length ≤ 140737488355328) :
    Contract F Tryd.prog 45 [.sl a len cap 1 rd, .v (.string sep)] (fun r => r = .v (.string ⟨(Lib.join (xs.map (·.data.toList)) sep.data.toList).toArray⟩)) := by
  subst hl
  refine ofCalls1 Tryd.func45 rfl (by kernel_rfl) fun R w hs hR => ?_
  obtain ⟨h1, h2, h3⟩ := hs _ List.mem_cons_self
  rcases h3 with h3 | ⟨blk, off, rfl, hr, hc⟩
  · omega
  refine (Tryd.strings_Join blk off cap xs sep w (fun j x hx => ?_) (hR _ hr) hN h1 hlen).mono ?_
  · have hj : j < xs.length := (List.getElem?_eq_some_iff.1 hx).1
    have h9 := (hc j 0 hj (by decide)).1
    rw [hrd j x hx, Nat.mul_one, Nat.add_zero] at h9
    exact h9
  · rintro e w' ⟨rfl, hb⟩
    exact ⟨_, rfl, rfl, trivial, hb⟩
end Go.Proofs.YtceacooambpkdaaDoor
