/- The frame of the proof of 'Rows.AddressPrefixesSaid': from the walk of the Go function to the given statement. Written by a program (wip/shell2.py). -/
import Derived.Test.YtceacooambpkdaaDoorRows
import Derived.Test.YtceacooambpkdaaDoorMem
import Derived.Test.YtceacooambpkdaaDoorOpenE
import Derived.WalkKit
import Derived.Test.YtceacooambpkdaaDoorCards
import Derived.Test.YtceacooambpkdaaDoorTie
import Derived.SevenTiedAt
import Derived.LaidMore
import Derived.LaidLaws
import Derived.LaidHandle
import Derived.ChangeVars
import Derived.JoinedOf
import Derived.ProofKit
import Derived.OpenShut
import Derived.ShutString
import Derived.ChangeOld
import Derived.Below
namespace Go.Proofs.YtceacooambpkdaaDoor.addressPrefixes
open Go.ChangeShapes Go.WideShapes Go.ChangeAt Go.RowKit Go.Proofs.YtceacooambpkdaaDoor.Eng
open Go.ChangeMaps (open_string shut_string)
set_option linter.unusedVariables false

theorem own : ownKnob Tryd.prog.godebug = none := by kernel_rfl
theorem laidOut : laidOutB Tryd.prog = true := by kernel_rfl

/-- the walk: whatever the input, the call returns true, and what was there is as it was -/
def Walk : Prop := ∀ (w : World) (_ : laidMetH Tryd.prog Rows.addressPrefixesRow.laid w) (l0 : List SV) (l1 : List SV) (l2 : List SV) (l3 : List SV), Came w l0 → Sh Tryd.prog 8 25 l0 → (valS Tryd.prog 25 l0).ok (fun b => b < w.heap.size) w → Came w l1 → Sh Tryd.prog 8 25 l1 → (valS Tryd.prog 25 l1).ok (fun b => b < w.heap.size) w → Came w l2 → Sh Tryd.prog 8 23 l2 → (valS Tryd.prog 23 l2).ok (fun b => b < w.heap.size) w → Came w l3 → Sh Tryd.prog 8 26 l3 → (valS Tryd.prog 26 l3).ok (fun b => b < w.heap.size) w →
    Calls Tryd.prog 8 #[(valS Tryd.prog 25 l0).den, (valS Tryd.prog 25 l1).den, (valS Tryd.prog 23 l2).den, (valS Tryd.prog 26 l3).den] w fun e w' => e = .returned (.bool true) ∧ Below w.heap.size w w'

/-- The door's own heap meets the condition. -/
theorem door_met (os : Os) (args : Array Value) : laidMetH Tryd.prog Rows.addressPrefixesRow.laid ((World.doorLaid Tryd.prog 83 os).forCall (fun _ _ => 0) ⟨#[], args, []⟩).memory :=
  laidMetH_of_parts3 (fuel := 8) (laidMet_of_run' 8 (by kernel_rfl) (by kernel_rfl)) (by kernel_rfl) (by kernel_rfl)

set_option maxRecDepth 100000 in
theorem lifted (walk : Walk) (os : Os) (started : os.Started) (H : Type) (enc : TypeId × Value → H) :
    ReturnsInHanded {} Tryd.checked os 8 .any (fun w args => (Rows.addressPrefixesSpec.pre enc Tryd.prog Tryd.f8 Rows.addressPrefixesRow.domain false w args ∧ laidMetH Tryd.prog Rows.addressPrefixesRow.laid w) ∧ sizedMet enc Tryd.prog Tryd.f8 (OpenSpec.ofChange Rows.addressPrefixesSpec) false w args) (Rows.addressPrefixesSpec.post enc Tryd.prog Tryd.f8 false true false false) := by
  refine returnsInHanded_of_change_and (C := Tryd.checked) (X := fun w _ => laidMetH Tryd.prog Rows.addressPrefixesRow.laid w) (fun _ _ _ hh h => h.of_heap hh) own started (by kernel_rfl) Tryd.func8
    (ChangeSpec.witness_shaped (enc := enc) (C := Tryd.checked) (os := os) (X := fun w _ => laidMetH Tryd.prog Rows.addressPrefixesRow.laid w) false (World.doorLaid Tryd.prog 83 os) #[.agg #[.int .u32 0, .int .i64 0], .agg #[.int .u32 0, .int .i64 0], .int .u32 0, .slice none 0 0] 8 rfl (World.shaped_of_RefB (by kernel_rfl) (by kernel_rfl)) (by kernel_rfl) (by kernel_rfl) (by kernel_rfl) (door_met os _)) ?_
  intro W base args ds gs before hval0 hW hcnd _ hL _
  have hval : ∀ (j : Nat) t v, Tryd.f8.params[j]? = some t → args[j]? = some v → Value.okWide Tryd.prog W .any base t v := hval0
  have hW' := hW
  obtain ⟨p, q, hA0, hV, rfl, hfz, hnd⟩ := hW
  have hA : DataW.TrodAll enc Tryd.prog W 0 (fun _ => true) true Tryd.f8.params.toList args.toList ds p := hA0
  rw [Tryd.params8] at hA hval
  obtain ⟨v0, vs0, d0, ds0, p0, q0, hargs, rfl, rfl, h0, r0⟩ := trodAll_cons hA
  obtain ⟨v1, vs1, d1, ds1, p1, q1, rfl, rfl, rfl, h1, r1⟩ := trodAll_cons r0
  obtain ⟨v2, vs2, d2, ds2, p2, q2, rfl, rfl, rfl, h2, r2⟩ := trodAll_cons r1
  obtain ⟨v3, vs3, d3, ds3, p3, q3, rfl, rfl, rfl, h3, r3⟩ := trodAll_cons r2
  obtain ⟨rfl, rfl, rfl⟩ := trodAll_nil r3
  obtain rfl : args = #[v0, v1, v2, v3] := by cases args; simp_all
  obtain ⟨rfl, rfl⟩ := trodVars_none hV
  have lt0 : ∀ x ∈ p0, x.block < W.heap.size := by obtain ⟨m, hm⟩ := h0; exact DataW.trod_lt m _ _ _ hm
  obtain ⟨l0, e0, c0, s0, o0⟩ := open_val (D := 8) (t := 25) (by kernel_rfl) (hval 0 25 v0 rfl rfl) h0
  have lt1 : ∀ x ∈ p1, x.block < W.heap.size := by obtain ⟨m, hm⟩ := h1; exact DataW.trod_lt m _ _ _ hm
  obtain ⟨l1, e1, c1, s1, o1⟩ := open_val (D := 8) (t := 25) (by kernel_rfl) (hval 1 25 v1 rfl rfl) h1
  have lt2 : ∀ x ∈ p2, x.block < W.heap.size := by obtain ⟨m, hm⟩ := h2; exact DataW.trod_lt m _ _ _ hm
  obtain ⟨l2, e2, c2, s2, o2⟩ := open_val (D := 8) (t := 23) (by kernel_rfl) (hval 2 23 v2 rfl rfl) h2
  have lt3 : ∀ x ∈ p3, x.block < W.heap.size := by obtain ⟨m, hm⟩ := h3; exact DataW.trod_lt m _ _ _ hm
  obtain ⟨l3, e3, c3, s3, o3⟩ := open_val (D := 8) (t := 26) (by kernel_rfl) (hval 3 26 v3 rfl rfl) h3
  clear hA0 hval0
  have HW := (walk W hL l0 l1 l2 l3 c0 s0 (o0 _ rfl) c1 s1 (o1 _ rfl) c2 s2 (o2 _ rfl) c3 s3 (o3 _ rfl))
  rw [← e0, ← e1, ← e2, ← e3] at HW
  refine HW.mono fun e W' ⟨he, bel⟩ => ?_
  subst he
  exact ⟨_, rfl, _, _, _, [], _, [], hW', trodAll_mk1 (shut_bool Tryd.underlying4 _), (trodAll_cons_mk (Below.trod laidOut (by kernel_rfl) (of_decide_eq_true (by kernel_rfl)) h0 bel lt0) (trodAll_cons_mk (Below.trod laidOut (by kernel_rfl) (of_decide_eq_true (by kernel_rfl)) h1 bel lt1) (trodAll_cons_mk (Below.trod laidOut (by kernel_rfl) (of_decide_eq_true (by kernel_rfl)) h2 bel lt2) (trodAll_cons_mk (Below.trod laidOut (by kernel_rfl) (of_decide_eq_true (by kernel_rfl)) h3 bel lt3) trodAll_mk0)))), rfl, bel.frame _, fun h => by cases h⟩

theorem of_walk (walk : Walk) : Rows.AddressPrefixesSaid :=
  OpenClaim.holds_of_wide 8 Tryd.f8 rfl rfl rfl rfl rfl rfl rfl ⟨rfl, rfl, rfl, rfl, rfl⟩ rfl rfl rfl rfl rfl (by kernel_rfl) Tryd.func8 (by kernel_rfl)
    (of_decide_eq_true (by kernel_rfl)) (by unfold Func.isWrapper; first | (rw [if_pos (by decide +kernel)]; kernel_rfl) | (rw [if_neg (by decide +kernel)]; exact ⟨rfl, rfl⟩))
    (fun os started H enc _ => lifted walk os started H enc)

/-- the card: the row, and what it lists tied to the program's text -/
theorem card_of_walk (walk : Walk) : Rows.AddressPrefixesCardSaid :=
  Claim7.holds_tied_plain_at .later [] [.data, .data, .data, .sentinel, .sentinel] true (true, "c3111457611dc176b513f584d35333b7184be68d625894162c648ae74407561c") true
    (of_walk walk) (fun _ h => by cases h) (by kernel_rfl) (fun _ h => by cases h) addressPrefixes_row_tie rfl ⟨rfl, rfl⟩ (by kernel_rfl) rfl
    (fun f fn hf hfn => by
      obtain rfl : f = 8 := (Option.some.inj ((show Tryd.prog.funcNamed "routescope/routescopelaw01.AddressPrefixes" = some 8 by kernel_rfl).symm.trans hf)).symm
      obtain rfl : fn = Tryd.f8 := (Option.some.inj (Tryd.func8.symm.trans hfn)).symm
      have hall : (Tryd.f8.params.toList.all fun t => !Tryd.prog.wantsStandIn t) = true := by kernel_rfl
      exact ⟨by kernel_rfl, fun j t ht => by
        have hm : t ∈ Tryd.f8.params.toList := by
          rw [← Array.getElem?_toList] at ht
          exact List.mem_of_getElem? ht
        have := List.all_eq_true.1 hall t hm
        have h9 : Tryd.prog.wantsStandIn t = false := by simpa using this
        exact h9⟩)
    (by kernel_rfl)
end Go.Proofs.YtceacooambpkdaaDoor.addressPrefixes
