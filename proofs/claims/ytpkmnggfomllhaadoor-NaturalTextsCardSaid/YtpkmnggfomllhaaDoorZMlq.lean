/- numbers in memory (ZMul without Mul). -/
import Derived.Test.YtpkmnggfomllhaaDoorZTrim
import Derived.Test.YtpkmnggfomllhaaDoorMulMath
import Derived.Deep.DeepMust
set_option linter.unusedSectionVars false
set_option linter.unusedSimpArgs false
set_option linter.unusedVariables false
namespace Go.Proofs.YtpkmnggfomllhaaDoor.Zn
open Go.RowKit Lmb
variable [Zone]
omit [Zone] in
theorem Tryd.infoInt : (Tryd.prog.info? 3).map (fun i => (i.zero, i.size, i.bytes)) = some (some (.int .i64 0), 1, 8) := by kernel_rfl
def NatAt (w : World) (v : Value) (n : Nat) : Prop := ∃ xs, Rd .i64 w v xs ∧ Dig xs n
theorem NatAt.below {w w' : World} {v : Value} {n : Nat} (h : NatAt w v n) (hb : Below w.heap.size w w') : NatAt w' v n :=
  let ⟨xs, h1, h2⟩ := h; ⟨xs, h1.below hb, h2⟩
theorem NatAt.zone {w : World} {v : Value} {n : Nat} (h : NatAt w v n) : Zone.N ≤ w.heap.size := let ⟨_, h1, _⟩ := h; h1.zone
def RetNat (n : Nat) (w : World) (e : Ending) (w' : World) : Prop := ∃ v, e = .returned (.tuple #[v, .int .i64 0]) ∧ NatAt w' v n ∧ Below w.heap.size w w'
theorem own_made {e : TypeId} {B : Nat} {w : World} {g n : Nat} (h : w.ownsRow B e 1 (.slice (some ⟨g, 0, none⟩) n n) n (madeCells #[Value.int .i64 0] n).toList) (hN : Zone.N ≤ B) :
    Own .i64 e B w g n (List.replicate n 0) := by
  have e1 : (madeCells #[Value.int .i64 0] n).toList = (List.replicate n 0).map (Value.int .i64) := by
    rw [toList_madeCells_one]; simp
  rw [e1] at h
  exact ⟨h, hN⟩
attribute [local go_sem] and_limb
end Go.Proofs.YtpkmnggfomllhaaDoor.Zn
