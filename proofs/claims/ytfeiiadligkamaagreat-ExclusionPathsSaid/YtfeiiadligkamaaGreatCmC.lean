import Derived.Test.YtfeiiadligkamaaGreatCmM
import Derived.Test.YtfeiiadligkamaaGreatCmB
import Derived.Test.YtfeiiadligkamaaGreatPk3
import Derived.Test.YtfeiiadligkamaaGreatIdnSrt7

/- common.Pairs, by the evaluator. -/
set_option linter.unusedSimpArgs false
set_option linter.unusedVariables false
namespace Go.Proofs.YtfeiiadligkamaaGreat
open Go.Sort Eng
theorem tl_get (T : List Eng.Own) (x : Eng.Own) : (T ++ [x])[T.length]? = some x := List.getElem?_concat_length
theorem tl_set (T : List Eng.Own) (x y : Eng.Own) : (T ++ [x]).set T.length y = T ++ [y] := by rw [List.set_append_right _ _ (Nat.le_refl _), Nat.sub_self]; rfl
theorem idn_app {ys : List Idn} {x : Idn} {cs : List SV} (h : cs = Idn.cs x) : rdEq (ys.length + 1) 3 (rdCat ys.length (idnRd ys.toArray) (rdL cs 3)) (idnRd (ys ++ [x]).toArray) := by
 subst h
 refine rdEq_snoc (fun i j hi hj => ?_) (fun j hj => ?_)
 ·unfold idnRd
  simp [getElem!_def, List.getElem?_append, hi]
 ·unfold idnRd
  simp [getElem!_def]
structure Grp where
 p : Par
 ids : List Idn
 a : Option Addr
 cap : Nat
instance : Inhabited Grp := ⟨⟨default, [], none, 0⟩⟩
def Grp.row (g : Grp) : Eng.Own := idnRow g.a g.ids.length g.cap g.ids.toArray
def Grp.val (g : Grp) : SV := .os 0 g.a g.ids.length g.cap
def Grp.pair (g : Grp) : Par × List Idn := (g.p, g.ids)
structure Evd where
 kind : Int
 a : Int
 b : Int
 ids : List Idn
 ad : Option Addr
 cap : Nat
instance : Inhabited Evd := ⟨⟨0, 0, 0, [], none, 0⟩⟩
def Evd.cs (e : Evd) : List SV := [.i .i64 e.kind, .i .u32 e.a, .i .u32 e.b, .sl e.ad e.ids.length e.cap 3 (idnRd e.ids.toArray)]
def evRd (es : List Evd) : Nat → Nat → SV := fun i j => (Evd.cs (es.getD i default)).getD j default
theorem idn_sorted {L : List Idn} {d' : Array Idn} (hd : d'.size = L.length) (hp : PermIn 0 L.length L.toArray d') (hs : SortedIn idnLt 0 L.length d') : d'.toList.Perm L ∧ d'.toList.Pairwise fun a b => idnLt b a = false := by
 have h := hp.2.2
 have e1 : (d'.extract 0 L.length) = d' := by rw [← hd]; simp
 have e2 : (L.toArray.extract 0 L.length) = L.toArray := by simp
 rw [e1, e2] at h
 refine ⟨by simpa using h, ?_⟩
 rw [List.pairwise_iff_getElem]
 intro i j hi hj hij
 have hi' : i < d'.size := by simpa using hi
 have hj' : j < d'.size := by simpa using hj
 have := hs i j (Nat.zero_le _) hij (by omega)
 simpa [getElem!_def, hi', hj'] using this
def Evd.pr (e : Evd) : Par := ⟨e.a, e.b⟩
structure PairsOf (xs : List Res) (es : List Evd) : Prop where
 asc : es.Pairwise fun x y => parLt x.pr y.pr = true
 each : ∀ e ∈ es, e.kind = 1 ∧ (e.ids.Pairwise fun x y => idnLt x y = true) ∧ e.ids ≠ [] ∧ e.ids.length ≤ 512
 mem : ∀ p d, (∃ e ∈ es, e.pr = p ∧ d ∈ e.ids) ↔ ∃ r ∈ xs, showR r = some p ∧ r.idn = d
 len : es.length ≤ xs.length
end Go.Proofs.YtfeiiadligkamaaGreat
