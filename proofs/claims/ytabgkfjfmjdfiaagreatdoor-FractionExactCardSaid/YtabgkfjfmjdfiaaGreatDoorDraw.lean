import Derived.Test.YtabgkfjfmjdfiaaGreatDoorProg
import Derived.Test.YtabgkfjfmjdfiaaGreatDoorMem
import Derived.WalkKit
import Derived.Lib.Hide
import Derived.Deep.LoopGhost
import Derived.Deep.QuietTactic
import Derived.BigQuiet
import Derived.Outline
import Derived.OpenShut
namespace Go.Proofs.YtabgkfjfmjdfiaaGreatDoor
open Go.RowKit
def Codes (cb:Nat) (w:World):Prop:=
  ∃ (ad:Option Addr) (n cap p:Nat),w.heap[cb]? = some (.cells #[.slice ad n cap,.int .i64 (p:Int)] 66 (0,0))∧n≤maxLen∧p≤n ∧
    (n=0∨∃ b off,ad=some ⟨b,off,none⟩∧b<cb∧∀ i,i<n→∃ x:Int,0≤x∧x<256∧w.cell? ⟨b,off+i,none⟩=some (.int .u8 x))
theorem Codes.lt {cb:Nat} {w:World} (h:Codes cb w):cb<w.heap.size:=by
  obtain⟨_,_,_,_,h,_⟩:=h;exact (Array.getElem?_eq_some_iff.1 h).1
theorem Codes.kept {cb:Nat} {w w':World} (h:Codes cb w) (hb:∀ k,k≤cb→w'.heap[k]? = w.heap[k]?):Codes cb w':=by
  obtain⟨ad,n,cap,p,h1,h2,h3,h4⟩:=h;refine⟨ad,n,cap,p,(hb cb (Nat.le_refl _)).trans h1,h2,h3,?_⟩;rcases h4 with h4|⟨b,off,h5,h6,h8⟩
  · exact .inl h4
  · exact .inr ⟨b,off,h5,h6,fun i hi=>let ⟨x,x0,x1,hx⟩:=h8 i hi;⟨x,x0,x1,(World.cell?_of_block (w:=w) (a:=⟨b,off+i,none⟩) (hb b (Nat.le_of_lt h6))).trans hx⟩⟩
theorem Codes.below {cb:Nat} {w w':World} (h:Codes cb w) (hb:Below w.heap.size w w'):Codes cb w':=
  h.kept fun k hk=>hb.block k (Nat.lt_of_le_of_lt hk h.lt)
theorem Codes.grown {cb:Nat} {w w':World} {row:Option Nat} (h:Codes cb w) (hg:w.grownBy w' row) (hr:∀ k,row=some k→cb<k):Codes cb w':=
  h.kept fun k hk=>hg.block k (Nat.lt_of_le_of_lt hk h.lt) fun e=>by have:=hr k e.symm;omega
theorem grown_trans {a b c:World} {row:Option Nat} (h:a.grownBy b row) (k:b.grownBy c row):a.grownBy c row:=
  ⟨k.os.trans h.os,k.tape.trans h.tape,k.output.trans h.output,Nat.le_trans h.size k.size,fun i hi hne=>(k.block i (Nat.lt_of_lt_of_le hi h.size) hne).trans (h.block i hi hne)⟩
theorem grown_of_below {a b:World} (h:Below a.heap.size a b) (row:Option Nat):a.grownBy b row:=⟨h.os,h.tape,h.output,h.size,fun i hi _=>h.block i hi⟩
theorem grown_drewN {a b:World} {row:Option Nat} (h:a.grownBy b row) (n:Nat):a.grownBy (b.drewN n) row:=⟨h.os,h.tape,h.output,h.size,h.block⟩
theorem grown_setCell (w:World) (cb o:Nat) (u:Value):w.grownBy (w.setCell ⟨cb,o,none⟩ u) (some cb):=
  ⟨rfl,rfl,rfl,by simp [World.setCell],fun i _ hne=>Below.heap_setCell w ⟨cb,o,none⟩ u i (fun e=>hne (by rw[e]))⟩
theorem Codes.advance {cb:Nat} {w:World} {ad:Option Addr} {n cap p:Nat} (h1:w.heap[cb]? = some (.cells #[.slice ad n cap,.int .i64 (p:Int)] 66 (0,0))) (h2:n≤maxLen) (hp:p<n)
    (h4:n=0∨∃ b off,ad=some ⟨b,off,none⟩∧b<cb∧∀ i,i<n→∃ x:Int,0≤x∧x<256∧w.cell? ⟨b,off+i,none⟩=some (.int .u8 x)) :
    Codes cb (w.setCell ⟨cb,1,none⟩ (.int .i64 ((p:Int)+1))):=by
  refine⟨ad,n,cap,p+1,?_,h2,hp,?_⟩
  · rw[heap_setCell_same w cb 1 _ _ _ h1];simp
  · rcases h4 with h4|⟨b,off,h5,h6,h8⟩
    · exact .inl h4
    · refine .inr ⟨b,off,h5,h6,fun i hi=>?_⟩
      obtain⟨x,x0,x1,hx⟩:=h8 i hi;refine⟨x,x0,x1,?_⟩;rw[← hx];exact World.cell?_of_block (w:=w) (Below.heap_setCell w ⟨cb,1,none⟩ _ b (Nat.ne_of_lt h6))
def RetNext (cb:Nat) (n:Int) (w:World) (e:Ending) (w':World):Prop:=
  ∃ r:Int,e=.returned (.int .i64 r)∧0≤r∧(r<n∨r=0)∧Codes cb w'∧w.grownBy w' (some cb)
set_option maxHeartbeats 1000000 in
theorem next_small (cb:Nat) (n:Int) (w:World) (h:Codes cb w) (hn:n≤256) (hn0:-9223372036854775808≤n) :
    Calls Tryz.prog 24 #[.pointer (some ⟨cb,0,none⟩),.int .i64 n] w (RetNext cb n w):=by
  have hcodes:=Lib.hid h;obtain⟨ad,l,cap,p,h1,h2,h3,h4⟩:=h;have h4:=Lib.hid h4;have c0:w.cell? ⟨cb,0,none⟩=some (.slice ad l cap):=by rw[cell_of_row w cb 0 _ _ _ h1];rfl
  have c1:w.cell? ⟨cb,1,none⟩=some (.int .i64 (p:Int)):=by rw[cell_of_row w cb 1 _ _ _ h1];rfl
  have f1:w.frozen? ⟨cb,1,none⟩=false:=frozen_of_row w cb 1 _ _ h1;have H1:=Lib.hid h1;clear h1;unfold maxLen at h2;by_cases hp:l≤p
  · have hd:decide (l≤p)=true:=by simpa using hp
    go_enter Tryz.func24,Tryz.ntmps24
    go_wp2
    go_quiet (fail)
    go_wp2
    go_ret
    exact⟨0,rfl,by omega,.inr rfl,hcodes.out.below (Below.drewN' _ _),grown_of_below (Below.drewN' _ _) _⟩
  · have hd:decide (l≤p)=false:=by simpa using hp
    by_cases hn1:n<1
    · go_enter Tryz.func24,Tryz.ntmps24
      go_wp2
      go_quiet (fail)
      go_wp2
      go_ret
      exact⟨0,rfl,by omega,.inr rfl,hcodes.out.below (Below.drewN' _ _),grown_of_below (Below.drewN' _ _) _⟩
    · have hd1:decide (n<1)=false:=by simpa using hn1
      obtain⟨b,off,rfl,hlt,hc⟩:∃ b off,ad=some ⟨b,off,none⟩∧b<cb∧∀ i,i<l→∃ x:Int,0≤x∧x<256∧w.cell? ⟨b,off+i,none⟩=some (.int .u8 x):=by
        rcases h4.out with h|h
        · omega
        · exact h
      obtain⟨x,x0,x1,hx⟩:=hc p (by omega);clear hc
      go_enter Tryz.func24,Tryz.ntmps24
      go_wp2
      go_quiet (fail)
      go_wp2
      go_quiet (fail)
      go_wp2
      go_ret
      exact⟨_,rfl,Int.emod_nonneg _ (by omega),.inl (Int.emod_lt_of_pos _ (by omega)),(Codes.advance H1.out (by unfold maxLen;exact h2) (by omega) h4.out).below (Below.drewN' _ _),grown_drewN (grown_setCell _ _ _ _) _⟩
set_option maxHeartbeats 1000000 in
theorem next_calls (cb:Nat) (n:Int) (w:World) (h:Codes cb w) (hn0:-9223372036854775808≤n) (hn2:n≤9223372036854775807) :
    Calls Tryz.prog 24 #[.pointer (some ⟨cb,0,none⟩),.int .i64 n] w (RetNext cb n w):=by
  by_cases hn:n≤256
  · exact next_small cb n w h hn hn0
  have hcodes:=Lib.hid h;obtain⟨ad,l,cap,p,h1,h2,h3,h4⟩:=h;have h4:=Lib.hid h4;have c0:w.cell? ⟨cb,0,none⟩=some (.slice ad l cap):=by rw[cell_of_row w cb 0 _ _ _ h1];rfl
  have c1:w.cell? ⟨cb,1,none⟩=some (.int .i64 (p:Int)):=by rw[cell_of_row w cb 1 _ _ _ h1];rfl
  have f1:w.frozen? ⟨cb,1,none⟩=false:=frozen_of_row w cb 1 _ _ h1;have H1:=Lib.hid h1;clear h1;unfold maxLen at h2;by_cases hp:l≤p
  · have hd:decide (l≤p)=true:=by simpa using hp
    go_enter Tryz.func24,Tryz.ntmps24
    go_wp2
    go_quiet (fail)
    go_wp2
    go_ret
    exact⟨0,rfl,by omega,.inr rfl,hcodes.out.below (Below.drewN' _ _),grown_of_below (Below.drewN' _ _) _⟩
  · have hd:decide (l≤p)=false:=by simpa using hp
    have hd1:decide (n<1)=false:=by simp;omega
    obtain⟨b,off,rfl,hlt,hc⟩:∃ b off,ad=some ⟨b,off,none⟩∧b<cb∧∀ i,i<l→∃ x:Int,0≤x∧x<256∧w.cell? ⟨b,off+i,none⟩=some (.int .u8 x):=by
      rcases h4.out with h|h
      · omega
      · exact h
    obtain⟨x,x0,x1,hx⟩:=hc p (by omega);clear hc
    go_enter Tryz.func24,Tryz.ntmps24
    go_wp2
    go_quiet (fail)
    go_wp2
    go_quiet (fail)
    go_wp2_with fail
    refine (next_small cb 256 _ ((Codes.advance H1.out (by unfold maxLen;exact h2) (by omega) h4.out).below (Below.drewN' _ _)) (by omega) (by omega)).mono ?_;rintro e w' ⟨r,rfl,hr0,hr1,hc',hg⟩;have hr2:r<256:=by omega
    clear hr1;have hg':=grown_trans (grown_drewN (grown_setCell _ _ _ _) _) hg;clear hg
    go_wp2
    go_ret
    exact⟨_,rfl,Int.emod_nonneg _ (by omega),.inl (Int.emod_lt_of_pos _ (by omega)),hc',hg'⟩
end Go.Proofs.YtabgkfjfmjdfiaaGreatDoor
