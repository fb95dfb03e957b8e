import Derived.Test.YtfeiiadligkamaaGreatIdnSrt0
import Derived.Test.YtfeiiadligkamaaGreatPk3
import Derived.Test.YtfeiiadligkamaaGreatSrtLay
set_option linter.unusedSimpArgs false
set_option linter.unusedVariables false
namespace Go.Proofs.YtfeiiadligkamaaGreat
open Go.Sort Eng
theorem idn_one1 (x:Idn):∀ s∈Idn.cs x,s.den.oneCell'=true:=fun s hs=>XH (List.all_eq_true.1 (show (Idn.cs x).all XA=true from rfl) s hs)
theorem idn_def (R:Nat→Prop) (w:World):∀ s∈Idn.cs default,s.ok R w:=by
 intro s hs;simp only[Idn.cs,List.mem_cons,List.not_mem_nil,or_false] at hs;rcases hs with rfl|rfl|rfl<;>first|trivial|exact⟨Nat.le_refl _,Nat.zero_le _,.inl rfl⟩
theorem idnSortC (F:Frm) {g:FuncId} {rdc:Nat→SV} {lt:Idn→Idn→Bool} (hw:SWO lt) (hc:idnCmp g lt) (ad:Option Addr) (cap N:Nat) (hN:N≤1000000000000) (d:Array Idn) (hd:d.size=N) :
  ContractM F Tryz.prog 57 [.os 0 ad N cap,.fn g 0 rdc] (Q6 ad N cap d)
   (fun r o1=>r=Xh []∧∃ d',d'.size=N∧(PermIn 0 N d d'∧SortedIn lt 0 N d')∧o1=Q6 ad N cap d'):=
 sortK Tryz.sortID 3 (by decide) Tryz.isAgg27 Tryz.sizeOf27 Idn.cs (fun _=>rfl) idn_one1 idn_def F 27 (enters_of Tryz.func57 (by kernel_rfl) rfl) hw hc ad cap N hN d hd
end Go.Proofs.YtfeiiadligkamaaGreat
