import Derived.Test.YtfeiiadligkamaaGreatTreSrt0
import Derived.Test.YtfeiiadligkamaaGreatPk3
import Derived.Test.YtfeiiadligkamaaGreatSrtLay
set_option linter.unusedSimpArgs false
set_option linter.unusedVariables false
namespace Go.Proofs.YtfeiiadligkamaaGreat
open Go.Sort Eng
theorem tre_one1 (x:Tre):∀ s∈Tre.cs x,s.den.oneCell'=true:=fun s hs=>XH (List.all_eq_true.1 (show (Tre.cs x).all XA=true from rfl) s hs)
theorem tre_def (R:Nat→Prop) (w:World):∀ s∈Tre.cs default,s.ok R w:=by
 intro s hs;simp only[Tre.cs,List.mem_cons,List.not_mem_nil,or_false] at hs;rcases hs with rfl|rfl|rfl<;>first|trivial|exact⟨Nat.le_refl _,Nat.zero_le _,.inl rfl⟩
theorem treSortC (F:Frm) {g:FuncId} {rdc:Nat→SV} {lt:Tre→Tre→Bool} (hw:SWO lt) (hc:treCmp g lt) (ad:Option Addr) (cap N:Nat) (hN:N≤1000000000000) (d:Array Tre) (hd:d.size=N) :
  ContractM F Tryz.prog 114 [.os 0 ad N cap,.fn g 0 rdc] (Ql ad N cap d)
   (fun r o1=>r=Xh []∧∃ d',d'.size=N∧(PermIn 0 N d d'∧SortedIn lt 0 N d')∧o1=Ql ad N cap d'):=
 sortK Tryz.sortTrace 3 (by decide) Tryz.isAgg68 Tryz.sizeOf68 Tre.cs (fun _=>rfl) tre_one1 tre_def F 68 (enters_of Tryz.func114 (by kernel_rfl) rfl) hw hc ad cap N hN d hd
end Go.Proofs.YtfeiiadligkamaaGreat
