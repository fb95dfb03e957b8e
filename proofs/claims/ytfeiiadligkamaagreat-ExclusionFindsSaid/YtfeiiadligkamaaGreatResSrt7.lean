import Derived.Test.YtfeiiadligkamaaGreatResSrt0
import Derived.Test.YtfeiiadligkamaaGreatPk3
import Derived.Test.YtfeiiadligkamaaGreatSrtLay
set_option linter.unusedSimpArgs false
set_option linter.unusedVariables false
namespace Go.Proofs.YtfeiiadligkamaaGreat
open Go.Sort Eng
theorem res_one1 (x:Res):∀ s∈Res.cs x,s.den.oneCell'=true:=fun s hs=>XH (List.all_eq_true.1 (show (Res.cs x).all XA=true from rfl) s hs)
theorem res_def (R:Nat→Prop) (w:World):∀ s∈Res.cs default,s.ok R w:=by
 intro s hs;simp only[Res.cs,List.mem_cons,List.not_mem_nil,or_false] at hs;rcases hs with rfl|rfl|rfl|rfl|rfl|rfl|rfl|rfl|rfl|rfl|rfl|rfl|rfl|rfl|rfl|rfl|rfl<;>first|trivial|exact⟨Nat.le_refl _,Nat.zero_le _,.inl rfl⟩
theorem resSortC (F:Frm) {g:FuncId} {rdc:Nat→SV} {lt:Res→Res→Bool} (hw:SWO lt) (hc:resCmp g lt) (ad:Option Addr) (cap N:Nat) (hN:N≤1000000000000) (d:Array Res) (hd:d.size=N) :
  ContractM F Tryz.prog 96 [.os 0 ad N cap,.fn g 0 rdc] (Qb ad N cap d)
   (fun r o1=>r=Xh []∧∃ d',d'.size=N∧(PermIn 0 N d d'∧SortedIn lt 0 N d')∧o1=Qb ad N cap d'):=
 sortK Tryz.sortResult 17 (by decide) Tryz.isAgg62 Tryz.sizeOf62 Res.cs (fun _=>rfl) res_one1 res_def F 62 (enters_of Tryz.func96 (by kernel_rfl) rfl) hw hc ad cap N hN d hd
end Go.Proofs.YtfeiiadligkamaaGreat
