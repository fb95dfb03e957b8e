/- The frame of the proof of 'Rows.RegistryStepsSaid': from the walk of the Go function to the given statement. Written by a program (wip/shell2.py). -/
import Derived.Test.YtepkbbmjbbnhnaaGreatDoorRows
import Derived.Test.YtepkbbmjbbnhnaaGreatDoorMem
import Derived.Test.YtepkbbmjbbnhnaaGreatDoorOpenE
import Derived.WalkKit
import Derived.Test.YtepkbbmjbbnhnaaGreatDoorCards
import Derived.Test.YtepkbbmjbbnhnaaGreatDoorTie
import Derived.SevenTiedAt
import Derived.LaidMore
import Derived.LaidLaws
import Derived.LaidHandle
import Derived.ChangeVars
import Derived.JoinedOf
import Derived.ProofKit
import Derived.OpenShut
import Derived.ShutString
import Derived.ChangeOld
import Derived.Below
namespace Go.Proofs.YtepkbbmjbbnhnaaGreatDoor.registrySteps
open Go.ChangeShapes Go.WideShapes Go.ChangeAt Go.RowKit Go.Proofs.YtepkbbmjbbnhnaaGreatDoor.Eng
open Go.ChangeMaps (open_string shut_string)
set_option linter.unusedVariables false
theorem own : ownKnob Tryz.prog.godebug = none := by kernel_rfl
theorem laidOut : laidOutB Tryz.prog = true := by kernel_rfl
def Walk : Prop := ∀ (w : World) (_ : laidMetH Tryz.prog Rows.registryStepsRow.laid w) (l0 : List SV) (l1 : List SV) (l2 : List SV) (l3 : List SV) (l4 : List SV) (l5 : List SV) (l6 : List SV), Came w l0 → Sh Tryz.prog 8 22 l0 → (valS Tryz.prog 22 l0).ok (fun b => b < w.heap.size) w → Came w l1 → Sh Tryz.prog 8 25 l1 → (valS Tryz.prog 25 l1).ok (fun b => b < w.heap.size) w → Came w l2 → Sh Tryz.prog 8 31 l2 → (valS Tryz.prog 31 l2).ok (fun b => b < w.heap.size) w → Came w l3 → Sh Tryz.prog 8 31 l3 → (valS Tryz.prog 31 l3).ok (fun b => b < w.heap.size) w → Came w l4 → Sh Tryz.prog 8 27 l4 → (valS Tryz.prog 27 l4).ok (fun b => b < w.heap.size) w → Came w l5 → Sh Tryz.prog 8 3 l5 → (valS Tryz.prog 3 l5).ok (fun b => b < w.heap.size) w → Came w l6 → Sh Tryz.prog 8 29 l6 → (valS Tryz.prog 29 l6).ok (fun b => b < w.heap.size) w →
    Calls Tryz.prog 3 #[(valS Tryz.prog 22 l0).den, (valS Tryz.prog 25 l1).den, (valS Tryz.prog 31 l2).den, (valS Tryz.prog 31 l3).den, (valS Tryz.prog 27 l4).den, (valS Tryz.prog 3 l5).den, (valS Tryz.prog 29 l6).den] w fun e w' => e = .returned (.bool true) ∧ Below w.heap.size w w'
theorem door_met (os : Os) (args : Array Value) : laidMetH Tryz.prog Rows.registryStepsRow.laid ((World.doorLaid Tryz.prog 72 os).forCall (fun _ _ => 0) ⟨#[], args, []⟩).memory :=
  laidMetH_of_parts3 (fuel := 8) (laidMet_of_run' 8 (by kernel_rfl) (by kernel_rfl)) (by kernel_rfl) (by kernel_rfl)
set_option maxRecDepth 100000 in
theorem lifted (walk : Walk) (os : Os) (started : os.Started) (H : Type) (enc : TypeId × Value → H) :
    ReturnsInHanded {} Tryz.checked os 3 .any (fun w args => (Rows.registryStepsSpec.pre enc Tryz.prog Tryz.f3 Rows.registryStepsRow.domain false w args ∧ laidMetH Tryz.prog Rows.registryStepsRow.laid w) ∧ sizedMet enc Tryz.prog Tryz.f3 (OpenSpec.ofChange Rows.registryStepsSpec) false w args) (Rows.registryStepsSpec.post enc Tryz.prog Tryz.f3 false true false false) := by
  refine returnsInHanded_of_change_and (C := Tryz.checked) (X := fun w _ => laidMetH Tryz.prog Rows.registryStepsRow.laid w) (fun _ _ _ hh h => h.of_heap hh) own started (by kernel_rfl) Tryz.func3
    (ChangeSpec.witness_shaped (enc := enc) (C := Tryz.checked) (os := os) (X := fun w _ => laidMetH Tryz.prog Rows.registryStepsRow.laid w) false (World.doorLaid Tryz.prog 72 os) #[.slice none 0 0, .agg #[.slice none 0 0], .agg #[.int .u32 0, .int .i64 0, .int .i64 0, .int .i64 0, .int .i64 0], .agg #[.int .u32 0, .int .i64 0, .int .i64 0, .int .i64 0, .int .i64 0], .int .u32 0, .int .i64 0, .agg #[.int .u32 0, .int .i64 0]] 8 rfl (World.shaped_of_RefB (by kernel_rfl) (by kernel_rfl)) (by kernel_rfl) (by kernel_rfl) (by kernel_rfl) (door_met os _)) ?_
  intro W base args ds gs before hval0 hW hcnd _ hL _
  have hval : ∀ (j : Nat) t v, Tryz.f3.params[j]? = some t → args[j]? = some v → Value.okWide Tryz.prog W .any base t v := hval0
  have hW' := hW
  obtain ⟨p, q, hA0, hV, rfl, hfz, hnd⟩ := hW
  have hA : DataW.TrodAll enc Tryz.prog W 0 (fun _ => true) true Tryz.f3.params.toList args.toList ds p := hA0
  rw [Tryz.params3] at hA hval
  obtain ⟨v0, vs0, d0, ds0, p0, q0, hargs, rfl, rfl, h0, r0⟩ := trodAll_cons hA
  obtain ⟨v1, vs1, d1, ds1, p1, q1, rfl, rfl, rfl, h1, r1⟩ := trodAll_cons r0
  obtain ⟨v2, vs2, d2, ds2, p2, q2, rfl, rfl, rfl, h2, r2⟩ := trodAll_cons r1
  obtain ⟨v3, vs3, d3, ds3, p3, q3, rfl, rfl, rfl, h3, r3⟩ := trodAll_cons r2
  obtain ⟨v4, vs4, d4, ds4, p4, q4, rfl, rfl, rfl, h4, r4⟩ := trodAll_cons r3
  obtain ⟨v5, vs5, d5, ds5, p5, q5, rfl, rfl, rfl, h5, r5⟩ := trodAll_cons r4
  obtain ⟨v6, vs6, d6, ds6, p6, q6, rfl, rfl, rfl, h6, r6⟩ := trodAll_cons r5
  obtain ⟨rfl, rfl, rfl⟩ := trodAll_nil r6
  obtain rfl : args = #[v0, v1, v2, v3, v4, v5, v6] := by cases args; simp_all
  obtain ⟨rfl, rfl⟩ := trodVars_none hV
  have lt0 : ∀ x ∈ p0, x.block < W.heap.size := by obtain ⟨m, hm⟩ := h0; exact DataW.trod_lt m _ _ _ hm
  obtain ⟨l0, e0, c0, s0, o0⟩ := open_val (D := 8) (t := 22) (by kernel_rfl) (hval 0 22 v0 rfl rfl) h0
  have lt1 : ∀ x ∈ p1, x.block < W.heap.size := by obtain ⟨m, hm⟩ := h1; exact DataW.trod_lt m _ _ _ hm
  obtain ⟨l1, e1, c1, s1, o1⟩ := open_val (D := 8) (t := 25) (by kernel_rfl) (hval 1 25 v1 rfl rfl) h1
  have lt2 : ∀ x ∈ p2, x.block < W.heap.size := by obtain ⟨m, hm⟩ := h2; exact DataW.trod_lt m _ _ _ hm
  obtain ⟨l2, e2, c2, s2, o2⟩ := open_val (D := 8) (t := 31) (by kernel_rfl) (hval 2 31 v2 rfl rfl) h2
  have lt3 : ∀ x ∈ p3, x.block < W.heap.size := by obtain ⟨m, hm⟩ := h3; exact DataW.trod_lt m _ _ _ hm
  obtain ⟨l3, e3, c3, s3, o3⟩ := open_val (D := 8) (t := 31) (by kernel_rfl) (hval 3 31 v3 rfl rfl) h3
  have lt4 : ∀ x ∈ p4, x.block < W.heap.size := by obtain ⟨m, hm⟩ := h4; exact DataW.trod_lt m _ _ _ hm
  obtain ⟨l4, e4, c4, s4, o4⟩ := open_val (D := 8) (t := 27) (by kernel_rfl) (hval 4 27 v4 rfl rfl) h4
  have lt5 : ∀ x ∈ p5, x.block < W.heap.size := by obtain ⟨m, hm⟩ := h5; exact DataW.trod_lt m _ _ _ hm
  obtain ⟨l5, e5, c5, s5, o5⟩ := open_val (D := 8) (t := 3) (by kernel_rfl) (hval 5 3 v5 rfl rfl) h5
  have lt6 : ∀ x ∈ p6, x.block < W.heap.size := by obtain ⟨m, hm⟩ := h6; exact DataW.trod_lt m _ _ _ hm
  obtain ⟨l6, e6, c6, s6, o6⟩ := open_val (D := 8) (t := 29) (by kernel_rfl) (hval 6 29 v6 rfl rfl) h6
  clear hA0 hval0
  have HW := (walk W hL l0 l1 l2 l3 l4 l5 l6 c0 s0 (o0 _ rfl) c1 s1 (o1 _ rfl) c2 s2 (o2 _ rfl) c3 s3 (o3 _ rfl) c4 s4 (o4 _ rfl) c5 s5 (o5 _ rfl) c6 s6 (o6 _ rfl))
  rw [← e0, ← e1, ← e2, ← e3, ← e4, ← e5, ← e6] at HW
  refine HW.mono fun e W' ⟨he, bel⟩ => ?_
  subst he
  exact ⟨_, rfl, _, _, _, [], _, [], hW', trodAll_mk1 (shut_bool Tryz.underlying4 _), (trodAll_cons_mk (Below.trod laidOut (by kernel_rfl) (of_decide_eq_true (by kernel_rfl)) h0 bel lt0) (trodAll_cons_mk (Below.trod laidOut (by kernel_rfl) (of_decide_eq_true (by kernel_rfl)) h1 bel lt1) (trodAll_cons_mk (Below.trod laidOut (by kernel_rfl) (of_decide_eq_true (by kernel_rfl)) h2 bel lt2) (trodAll_cons_mk (Below.trod laidOut (by kernel_rfl) (of_decide_eq_true (by kernel_rfl)) h3 bel lt3) (trodAll_cons_mk (Below.trod laidOut (by kernel_rfl) (of_decide_eq_true (by kernel_rfl)) h4 bel lt4) (trodAll_cons_mk (Below.trod laidOut (by kernel_rfl) (of_decide_eq_true (by kernel_rfl)) h5 bel lt5) (trodAll_cons_mk (Below.trod laidOut (by kernel_rfl) (of_decide_eq_true (by kernel_rfl)) h6 bel lt6) trodAll_mk0))))))), rfl, bel.frame _, fun h => by cases h⟩
theorem of_walk (walk : Walk) : Rows.RegistryStepsSaid :=
  OpenClaim.holds_of_wide 3 Tryz.f3 rfl rfl rfl rfl rfl rfl rfl ⟨rfl, rfl, rfl, rfl, rfl⟩ rfl rfl rfl rfl rfl (by kernel_rfl) Tryz.func3 (by kernel_rfl)
    (of_decide_eq_true (by kernel_rfl)) (by unfold Func.isWrapper; first | (rw [if_pos (by decide +kernel)]; kernel_rfl) | (rw [if_neg (by decide +kernel)]; exact ⟨rfl, rfl⟩))
    (fun os started H enc _ => lifted walk os started H enc)
theorem card_of_walk (walk : Walk) : Rows.RegistryStepsCardSaid :=
  Claim7.holds_tied_plain_at .later [] [.data, .data, .data] true (true, "84c038309f8579eea1fd49ae86a2f1b9d51f2c7379c14f74a005fd04a1748db3") true
    (of_walk walk) (fun _ h => by cases h) (by kernel_rfl) (fun _ h => by cases h) registrySteps_row_tie rfl ⟨rfl, rfl⟩ (by kernel_rfl) rfl
    (fun f fn hf hfn => by
      obtain rfl : f = 3 := (Option.some.inj ((show Tryz.prog.funcNamed "routescope/routescopelaw32.RegistrySteps" = some 3 by kernel_rfl).symm.trans hf)).symm
      obtain rfl : fn = Tryz.f3 := (Option.some.inj (Tryz.func3.symm.trans hfn)).symm
      have hall : (Tryz.f3.params.toList.all fun t => !Tryz.prog.wantsStandIn t) = true := by kernel_rfl
      exact ⟨by kernel_rfl, fun j t ht => by
        have hm : t ∈ Tryz.f3.params.toList := by
          rw [← Array.getElem?_toList] at ht
          exact List.mem_of_getElem? ht
        have := List.all_eq_true.1 hall t hm
        have h9 : Tryz.prog.wantsStandIn t = false := by simpa using this
        exact h9⟩)
    (by kernel_rfl)
end Go.Proofs.YtepkbbmjbbnhnaaGreatDoor.registrySteps
