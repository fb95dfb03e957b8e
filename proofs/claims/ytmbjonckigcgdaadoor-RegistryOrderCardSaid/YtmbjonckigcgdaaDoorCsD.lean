/- As DicR, over choices whose row lies in a known set of blocks. Printed by gen_cs.py. -/
import Derived.Test.YtmbjonckigcgdaaDoorCsB
import Derived.Test.YtmbjonckigcgdaaDoorDicR
set_option linter.unusedSimpArgs false
set_option linter.unusedVariables false
namespace Go.Proofs.YtmbjonckigcgdaaDoor.Cs
open Eng
set_option maxRecDepth 100000 in
theorem pickC (S : Nat → Prop) (cb : Nat) (a : Option Addr) (len cap : Nat) (rd : Nat → Nat → SV) (Q : Int → Prop) (h0 : 0 < len) (h1 : len ≤ 1000) (hq : ∀ i, i < len → ∃ x : Int, rd i 0 = .i .i64 x ∧ Q x) :
    Contract (Frm.codesS S cb) Tryd.prog 27 [ptr cb, .sl a len cap 1 rd] (fun r => ∃ x : Int, r = .i .i64 x ∧ Q x) := by
  refine contract_of Tryd.func27 rfl (by kernel_rfl) ?_
  simp only [Tryd.ntmps27, argEnv, ptr]
  (repeat refine Sat.seq ?_)
  (refine Sat.region_k fun k hk => ?_; simp -implicitDefEqProofs only [evr, id, seval, ptr]; refine hk _ ?_; clear hk k; try show Sat _ _ _ _ _)
  (repeat refine Sat.seq ?_)
  (refine Sat.region_k fun k hk => ?_; simp -implicitDefEqProofs only [evr, id, seval, ptr])
  refine wcall_plain (nextC S cb len (by omega) (by omega)) rfl (by rintro _ ⟨x, rfl, _⟩; exact ok_plain rfl) ?_
  rintro r ⟨x, rfl, hx0, hx1⟩
  obtain ⟨i, rfl⟩ := Int.eq_ofNat_of_zero_le hx0
  have hi : i < len := by omega
  obtain ⟨y, hy, hQ⟩ := hq i hi
  simp -implicitDefEqProofs only [evr, id, seval, ptr, hy]
  refine ⟨by omega, ?_⟩
  (refine hk _ ?_; clear hk k; try show Sat _ _ _ _ _)
  refine Sat.ret ?_
  simp only [Tryd.results27, evr, id, seval, ptr]
  exact ⟨y, rfl, hQ⟩
theorem pickI (S : Nat → Prop) (cb blk : Nat) (xs : List Int) (Q : Int → Prop) (h0 : 0 < xs.length) (h1 : xs.length ≤ 1000) (hQ : ∀ x ∈ xs, Q x) :
    Contract (Frm.codesS S cb) Tryd.prog 27 [ptr cb, .sl (some ⟨blk, 0, none⟩) xs.length xs.length 1 (rdL (xs.map (SV.i .i64)) 1)] (fun r => ∃ x : Int, r = .i .i64 x ∧ Q x) :=
  pickC S cb _ _ _ _ Q h0 h1 fun i hi => ⟨xs.getD i 0, by simp [rdL, List.getD, hi], hQ _ (getD_mem hi)⟩
set_option maxRecDepth 100000 in
theorem boolC (S : Nat → Prop) (cb : Nat) (n : Int) (h1 : 1 ≤ n) (h2 : n ≤ 1000000) : Contract (Frm.codesS S cb) Tryd.prog 13 [ptr cb, .i .i64 n] (fun r => ∃ b : Bool, r = .b b) := by
  refine contract_of Tryd.func13 rfl (by kernel_rfl) ?_
  simp only [Tryd.ntmps13, argEnv, ptr]
  (repeat refine Sat.seq ?_)
  (refine Sat.region_k fun k hk => ?_; simp -implicitDefEqProofs only [evr, id, seval, ptr]; refine hk _ ?_; clear hk k; try show Sat _ _ _ _ _)
  (repeat refine Sat.seq ?_)
  (refine Sat.region_k fun k hk => ?_; simp -implicitDefEqProofs only [evr, id, seval, ptr])
  refine wcall_plain (nextC S cb n (by omega) (by omega)) rfl (by rintro _ ⟨x, rfl, _⟩; exact ok_plain rfl) ?_
  rintro r ⟨x, rfl, hx0, hx1⟩
  simp -implicitDefEqProofs only [evr, id, seval, ptr]
  (refine hk _ ?_; clear hk k; try show Sat _ _ _ _ _)
  refine Sat.ret ?_
  simp only [Tryd.results13, evr, id, seval, ptr]
  exact ⟨_, rfl⟩
set_option maxRecDepth 100000 in
theorem addressC (S : Nat → Prop) (cb : Nat) : Contract (Frm.codesS S cb) Tryd.prog 10 [ptr cb] (fun r => ∃ x : Nat, r = .i .u32 (167772160 + x : Nat) ∧ x ≤ 13) := by
  refine contract_of Tryd.func10 rfl (by kernel_rfl) ?_
  simp only [Tryd.ntmps10, argEnv, ptr]
  (repeat refine Sat.seq ?_)
  (refine Sat.region_k fun k hk => ?_; simp -implicitDefEqProofs only [evr, id, seval, ptr]; refine hk _ ?_; clear hk k; try show Sat _ _ _ _ _)
  (repeat refine Sat.seq ?_)
  (refine Sat.region_k fun k hk => ?_; simp -implicitDefEqProofs only [evr, id, seval, ptr])
  intro blk
  refine wcall_plain (pickI S cb blk [1, 2, 5, 6, 9, 10, 12, 13] (fun x => 0 ≤ x ∧ x ≤ 13) (by decide) (by decide) (by decide)) (by simp -implicitDefEqProofs only [evr, id, seval, ptr]) plain_pick ?_
  rintro r ⟨x, rfl, h0, h1⟩
  simp -implicitDefEqProofs only [evr, id, seval, ptr, w32p h0 h1]
  (refine hk _ ?_; clear hk k; try show Sat _ _ _ _ _)
  refine Sat.ret ?_
  simp only [Tryd.results10, evr, id, seval, ptr]
  exact ⟨x.toNat, rfl, by omega⟩
end Go.Proofs.YtmbjonckigcgdaaDoor.Cs
