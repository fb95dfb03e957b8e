import Derived.Test.YtabgkfjfmjdfiaaGreatDoorZSub
import Derived.WalkSpells
set_option linter.unusedSectionVars false
set_option linter.unusedSimpArgs false
set_option linter.unusedVariables false
namespace Go.Proofs.YtabgkfjfmjdfiaaGreatDoor.Zn
open Go.RowKit Lmb
variable [Zone]
theorem rd_of_owns {w:World} {B:Nat} {e:TypeId} {v:Value} {xs:List Int} (h:w.ownsRow B e 1 v xs.length (xs.map (Value.int .i64))) (hN:Zone.N≤B) (hB:B≤w.heap.size):Rd .i64 w v xs:=by
  have h':=h;rcases h.2 with ⟨rfl,h0⟩|⟨g,cap,cur,rfl,hb,hg,hn,hc,_⟩
  · obtain rfl:=List.length_eq_zero_iff.1 h0
    exact Rd.nil _ _ (Nat.le_trans hN hB)
  · refine⟨some ⟨g,0,none⟩,cap,rfl,hn,⟨hc,Nat.le_trans hN hB,.inr fun y hy=>by cases hy;exact Zone.up _ (Nat.le_trans hN (h'.lt g rfl).1)⟩,.inr ⟨g,0,rfl,(h'.lt g rfl).2,fun i hi=>?_⟩⟩
    have:=World.ownsRow.cells h' (g:=g) rfl i (.int .i64 (xs.getD i 0)) (by simp [List.getD,hi])
    rwa [Addr.add_lit] at this
def RetList (xs:List Int) (w:World) (e:Ending) (w':World):Prop:=∃ v,e=.returned v∧Rd .i64 w' v xs∧Below w.heap.size w w'
set_option maxRecDepth 20000 in
set_option maxHeartbeats 400000 in
theorem clone_lists (a:Value) (xs:List Int) (w:World) (ha:Rd .i64 w a xs) (sx:xs.length≤65536) :
    Calls Tryz.prog 74 #[a] w (RetList xs w):=by
  obtain⟨aa,ca,rfl,a1,a2,a3⟩:=ha;obtain⟨i0,hi,hz0,hz1,hz2⟩:=info_parts Zc;unfold maxLen at a2;have q22:∀ (w:World) (a:Option Addr) (n c n' c':Nat),(binOp .eql 24 (.slice a n c) (.slice none n' c')).run Tryz.prog w=.ok (.bool a.isNone) w:=fun w a n c n' c'=>Lib.run_eql_slice_nil w _ _ a n c n' c' Tryz.underlying24;cases aa with
  | none=>
    have h0:xs=[]:=by
      rcases a3 with h|⟨b,off,h,_⟩
      · exact List.length_eq_zero_iff.1 h
      · cases h
    subst h0
    go_enter Tryz.func74,Tryz.ntmps74
    go_wp2
    go_ret
    exact⟨_,rfl,Rd.nil _ _ a2.2.1,Below.refl _ _⟩
  | some ad=>
    have hown:(w.alloc (.cells #[] 3)).ownsRow w.heap.size 3 1 (.slice (some ⟨w.heap.size,0,none⟩) 0 0) 0 []:=World.ownsRow_made w #[] 0 (Nat.le_refl _) (by unfold maxLen;omega) rfl
    have hnews:∀ j u,(xs.map (Value.int .i64))[j]? = some u→(w.alloc (.cells #[] 3)).cell? (ad.add j)=some u:=by
      intro j u hu
      have hj:j<xs.length:=by
        have:=(List.getElem?_eq_some_iff.1 hu).1
        simpa using this
      rcases a3 with h|⟨b,off,h,hlt,hc⟩
      · omega
      · injection h with h
        subst h;rw[Addr.add_lit];have e:(xs.map (Value.int .i64))[j]? = some (.int .i64 (xs.getD j 0)):=by simp [List.getD,hj]
        rw[e] at hu;rw[← hu,← hc j hj];exact World.cell?_of_block (w:=w) (Below.heap_alloc w _ b hlt)
    have HN:=Lib.hid hnews;clear hnews a3
    go_enter Tryz.func74,Tryz.ntmps74
    go_wp2_with (at_builtin;go_must (refine wpList_append_own _ rfl (.tmp 5) (.tmp 6) 24 rfl w.heap.size 3 i0 (.int .i64 0) 1 8 Tryz.underlying24 hi hz0 hz1 hz2 rfl (by decide) _ _ _ rfl hown ad xs.length ca (xs.map (Value.int .i64)) rfl (by simp) ?c1 ?c2 ?c3 ?c4 ?c5 ?_))
    case c1=>exact HN.out
    case c2=>exact ints_oneCell _ _
    case c3=>unfold maxLen;omega
    case c4=>omega
    case c5=>simp
    intro v' w1 hown' hgrow _;have hb:Below w.heap.size w w1:=((Below.refl _ _).alloc (Nat.le_refl _) _).grown hgrow (by simp) (fun k hk=>by simp [Value.ownBlock] at hk;omega);have hr:Rd .i64 w1 v' xs:=rd_of_owns (by simpa using hown') a2.2.1 hb.size;clear hown' hgrow
    go_wp2
    go_ret
    exact⟨v',rfl,hr,hb⟩
theorem clone_nat {a:Value} {n:Nat} {w:World} (ha:NatAt w a n) (hn:(n:Int)<pw 256):Calls Tryz.prog 74 #[a] w fun e w'=>∃ v,e=.returned v∧NatAt w' v n∧Below w.heap.size w w':=by
  obtain⟨xs,r1,d1⟩:=ha;have:=Zs d1 hn;exact (clone_lists a xs w r1 (by omega)).mono fun e w' ⟨v,h1,h2,h3⟩=>⟨v,h1,⟨xs,h2,d1⟩,h3⟩
end Go.Proofs.YtabgkfjfmjdfiaaGreatDoor.Zn
