import Derived.Test.YtfeiiadligkamaaGreatPoE
set_option linter.unusedSimpArgs false
set_option linter.unusedVariables false
namespace Go.Proofs.YtfeiiadligkamaaGreat
open Go.Sort Eng
def idL (v r n:Int):SV:=.agg 3 fun j=>[SV.i .i64 v,.i .i64 r,.i .i64 n].getD j default
def WitAt (ys:List Res) (i k:Nat):Prop:=i<k∧k<ys.length∧ClashAt (fun i=>ys.toArray[i]!) ys.length k∧ZH ys.toArray[i]! ys.toArray[k]! = true∧∀ j,j<i→ZH ys.toArray[j]! ys.toArray[k]! = false
def WitPost (ys:List Res) (f:Nat→SV):Prop:=
 (Seg (fun i=>ys.toArray[i]!) 0 ys.length∧f 0=idL 0 0 0∧f 1=idL 0 0 0∧f 2=.b false) ∨
 ∃ i k,WitAt ys i k∧f 0=Z7 ys.toArray[i]!∧f 1=Z7 ys.toArray[k]!∧f 2=.b true
theorem idAg_ok (x:Res) (R:Nat→Prop) (w:World):(Z7 x).ok R w:=by
 intro j hj;rcases (show j=0∨j=1∨j=2 by omega) with rfl|rfl|rfl<;>trivial
theorem WitPost.ok {ys:List Res} {f:Nat→SV} (h:WitPost ys f) (R:Nat→Prop) (w:World):(Xh [f 0,f 1,f 2]).ok R w:=by
 rcases h with ⟨_,e0,e1,e2⟩|⟨i,k,_,e0,e1,e2⟩<;>rw[e0,e1,e2]<;>intro j hj<;>(rcases (show j=0∨j=1∨j=2 by simp at hj;omega) with rfl|rfl|rfl)<;>first|exact idAg_ok _ _ _|trivial|(intro q hq;rcases (show q=0∨q=1∨q=2 by omega) with rfl|rfl|rfl<;>trivial)
end Go.Proofs.YtfeiiadligkamaaGreat
