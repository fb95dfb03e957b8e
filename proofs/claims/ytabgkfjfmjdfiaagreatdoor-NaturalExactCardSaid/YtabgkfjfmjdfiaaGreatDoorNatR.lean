import Derived.Test.YtabgkfjfmjdfiaaGreatDoorAddE
import Derived.Test.YtabgkfjfmjdfiaaGreatDoorRefKa

/- Package natural: small, result, and the reference's Same, for the evaluator (over law03's texts). -/
set_option linter.unusedSimpArgs false
set_option linter.unusedVariables false
namespace Go.Proofs.YtabgkfjfmjdfiaaGreatDoor
namespace Tq
open Eng Lmb Go.RowKit
theorem smallC (F : Frm) {sa : SV} {n : Nat} (c : Nat) (ha : Nats sa n) (hn : (n : Int) < pw 256) (h0 : 1 ≤ c) (h1 : c ≤ 1073741824) : Contract F Tryz.prog 75 [sa, .i .i64 c] (fun r => ∃ s, r = tupL [s, .i .i64 (n % c : Nat)] ∧ Nats s (n / c)) := by
  refine ofCalls Tryz.func75 rfl (by kernel_rfl) fun R w hargs hR => ?_
  refine (@Zn.small_nat (zoneOf R w) _ n c c w (nat_to (hargs sa (by simp)) ha hR) hn rfl (by omega) (by omega)).mono ?_
  rintro e w' ⟨v, rfl, hv, hbel⟩
  obtain ⟨s, rfl, hs, hok⟩ := nat_from hv
  exact ⟨tupL [s, .i .i64 (n % c : Nat)], rfl, ⟨s, rfl, hs⟩, tup2_ok hok trivial, hbel⟩
theorem sameNatC (F : Frm) {sa sb : SV} {m n : Nat} (ha : Nats sa m) (hb : Nats sb n) : Contract F Tryz.prog 17 [sa, sb] (fun r => r = .b (decide (m = n))) := by
  refine ofCalls Tryz.func17 rfl (by kernel_rfl) fun R w hargs hR => ?_
  refine (@Zn.same_nat (zoneOf R w) _ _ _ _ w (nat_to (hargs sa (by simp)) ha hR) (nat_to (hargs sb (by simp)) hb hR)).mono ?_
  rintro e w' ⟨rfl, d, rfl⟩
  exact ⟨.b (decide (m = n)), rfl, rfl, trivial, @Zn.Below.drewN' w d⟩
theorem resultC (F : Frm) {s : SV} {xs : List Int} (h : Ints s xs) (hl : Limbs xs) (hlen : (trim xs).length ≤ 256) : Contract F Tryz.prog 68 [s] (natRes (val xs).toNat) := by
  refine ofCalls Tryz.func68 rfl (by kernel_rfl) fun R w hargs hR => ?_
  refine (@Zn.result_rd (zoneOf R w) _ _ w (rd_to (hargs s (by simp)) h hR) hlen).mono ?_
  rintro e w' ⟨v, rfl, hv, rfl⟩
  obtain ⟨t, rfl, ht, hok⟩ := nat_from (R := R) (w := w) (w' := w) (n := (val xs).toNat) ⟨_, hv, dig_trim hl⟩
  exact ⟨tupL [t, .i .i64 0], rfl, ⟨t, rfl, ht⟩, tup2_ok hok trivial, Below.refl _ _⟩
end Tq
end Go.Proofs.YtabgkfjfmjdfiaaGreatDoor
