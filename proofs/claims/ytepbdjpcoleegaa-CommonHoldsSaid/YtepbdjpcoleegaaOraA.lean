import Derived.Test.YtepbdjpcoleegaaDiceE
import Derived.Test.YtepbdjpcoleegaaPk2
import Derived.Test.YtepbdjpcoleegaaPk3

/- Addresses and paths that are drawn (of: Oracles, by the evaluator: dice.Address within its type, dice.Oracle. ) -/
set_option linter.unusedSimpArgs false
set_option linter.unusedVariables false
namespace Go.Proofs.Ytepbdjpcoleegaa
open Eng
def InA (x : Int) : Prop := 0 ≤ x ∧ x < 4294967296
structure PthP where
 a : Option Addr
 cap : Nat
 p : List Int
instance : Inhabited PthP := ⟨⟨none, 0, []⟩⟩
def adRd (p : List Int) : Nat → Nat → SV := fun i _ => .i .u32 (p.getD i 0)
def PthP.sv (q : PthP) : SV := .sl q.a q.p.length q.cap 1 (adRd q.p)
def psRd (l : List PthP) : Nat → Nat → SV := fun i _ => (l.getD i default).sv
def PsOk (m : Nat) (l : List PthP) : Prop := ∀ q ∈ l, q.p.length ≤ m ∧ ∀ x ∈ q.p, InA x
theorem ad_app {p : List Int} {x : Int} : rdEq (p.length + 1) 1 (rdCat p.length (adRd p) (rdL [.i .u32 x] 1)) (adRd (p ++ [x])) := by
 refine rdEq_snoc (fun i j hi hj => ?_) (fun j hj => ?_)
 ·unfold adRd
  simp [List.getD, List.getElem?_append, hi]
 ·obtain rfl : j = 0 := by omega
  unfold adRd
  simp [List.getD]
theorem ps_app {l : List PthP} {q : PthP} {s : SV} (h : s = q.sv) : rdEq (l.length + 1) 1 (rdCat l.length (psRd l) (rdL [s] 1)) (psRd (l ++ [q])) := by
 subst h
 refine rdEq_snoc (fun i j hi hj => ?_) (fun j hj => ?_)
 ·unfold psRd
  simp [List.getD, List.getElem?_append, hi]
 ·obtain rfl : j = 0 := by omega
  unfold psRd
  simp [List.getD]
theorem wrapA (x : Int) : InA (IntKind.u32.wrap x) := by
 have h : IntKind.u32.wrap x = x % 4294967296 := rfl
 unfold InA
 rw [h]
 omega
set_option maxRecDepth 100000 in
theorem addrC (cb : Nat) : Contract (Frm.codes cb) Try.prog 45 [ptr cb] (fun r => ∃ x : Int, InA x ∧ r = .i .u32 x) := by
 refine contract_of Try.func45 rfl (by kernel_rfl) ?_
 simp only [Try.ntmps45, argEnv, ptr]
 (repeat refine Sat.seq ?_)
 (refine Sat.region_k fun k hk => ?_; simp -implicitDefEqProofs only [evr, id, seval, ptr, PthP.sv, evn]; refine hk _ ?_; clear hk k; try show Sat _ _ _ _ _)
 (repeat refine Sat.seq ?_)
 (refine Sat.region_k fun k hk => ?_; simp -implicitDefEqProofs only [evr, id, seval, ptr, PthP.sv, evn])
 intro blk
 refine wcall_plain (pickI cb blk [1, 2, 5, 6, 9, 10, 12, 13] (fun _ => True) (by decide) (by decide) (by simp)) (by simp -implicitDefEqProofs only [evr, id, seval, ptr, PthP.sv, evn]) plain_pick ?_
 rintro r ⟨x, rfl, _⟩
 simp -implicitDefEqProofs only [evr, id, seval, ptr, PthP.sv, evn]
 (refine hk _ ?_; clear hk k; try show Sat _ _ _ _ _)
 refine Sat.ret ?_
 simp only [Try.results45, evr, id, seval, ptr, List.append_nil, Int.toNat_zero, Nat.sub_self, Int.reduceToNat, PthP.sv]
 exact ⟨_, wrapA _, rfl⟩
theorem plain_addrC (r : SV) (h : ∃ x : Int, InA x ∧ r = .i .u32 x) : ∀ R w, r.ok R w := by
 obtain ⟨x, _, rfl⟩ := h; exact ok_plain rfl
end Go.Proofs.Ytepbdjpcoleegaa
