import Derived.WalkKit
import Derived.Carry
import Derived.Deep.Draws
namespace Go.Proofs.YtabgkfjfmjdfiaaGreatDoor
open Go.RowKit
def Rd (k:IntKind) (w:World) (v:Value) (xs:List Int):Prop:=
  ∃ ad cap,v=.slice ad xs.length cap∧xs.length≤cap∧cap≤maxLen ∧
    (xs.length=0∨∃ b off,ad=some ⟨b,off,none⟩∧b<w.heap.size∧∀ i,i<xs.length→w.cell? ⟨b,off+i,none⟩=some (.int k (xs.getD i 0)))
theorem Rd.nil (k:IntKind) (w:World):Rd k w (.slice none 0 0) []:=⟨none,0,rfl,by simp,by simp [maxLen],.inl rfl⟩
theorem Rd.below {k:IntKind} {w w':World} {v:Value} {xs:List Int} (h:Rd k w v xs) (hb:Below w.heap.size w w'):Rd k w' v xs:=by
  obtain⟨ad,cap,rfl,h1,h2,h3⟩:=h;refine⟨ad,cap,rfl,h1,h2,?_⟩;rcases h3 with h3|⟨b,off,rfl,hlt,hc⟩
  · exact .inl h3
  · exact .inr ⟨b,off,rfl,Nat.lt_of_lt_of_le hlt hb.size,fun i hi=>(hb.cell (p:=⟨b,off+i,none⟩) hlt).trans (hc i hi)⟩
theorem Rd.take {k:IntKind} {w:World} {ad:Option Addr} {cap:Nat} {xs:List Int} (h:Rd k w (.slice ad xs.length cap) xs) (n:Nat) (hn:n≤xs.length):Rd k w (.slice ad n cap) (xs.take n):=by
  obtain⟨ad',cap',e,h1,h2,h3⟩:=h;simp only[Value.slice.injEq] at e;obtain⟨rfl,_,rfl⟩:=e;have hl:(xs.take n).length=n:=by simp;omega
  refine⟨ad,cap,by rw[hl],by omega,h2,?_⟩;rw[hl];rcases h3 with h3|⟨b,off,rfl,hlt,hc⟩
  · exact .inl (by omega)
  · refine .inr ⟨b,off,rfl,hlt,fun i hi=>?_⟩
    rw[hc i (by omega)];simp [List.getD,hi]
def Own (k:IntKind) (e:TypeId) (B:Nat) (w:World) (g n:Nat) (xs:List Int):Prop:=
  w.ownsRow B e 1 (.slice (some ⟨g,0,none⟩) n n) n (xs.map (Value.int k))
section
variable {k:IntKind} {e:TypeId} {B:Nat} {w:World} {g n:Nat} {xs:List Int}
theorem Own.len (h:Own k e B w g n xs):xs.length=n:=by have:=h.1;simpa using this
theorem Own.lt (h:Own k e B w g n xs):B≤g∧g<w.heap.size:=World.ownsRow.lt h g rfl
theorem Own.cell (h:Own k e B w g n xs) (i:Nat) (hi:i<n):w.cell? ⟨g,i,none⟩=some (.int k (xs.getD i 0)):=by
  have hl:=h.len;rw[World.ownsRow.cellAt h i (by omega)];simp [List.getD,show i<xs.length by omega]
theorem Own.frozen (h:Own k e B w g n xs) (i:Nat):w.frozen? ⟨g,i,none⟩=false:=World.ownsRow.frozenAt h i
theorem Own.store (h:Own k e B w g n xs) (i:Nat) (v:Int):Own k e B (w.setCell ⟨g,i,none⟩ (.int k v)) g n (xs.set i v):=by
  have:=(World.ownsRow.stored h i (.int k v)).1;unfold Own
  rwa [List.map_set]
theorem Own.below {w':World} (h:Own k e B w g n xs) (hb:Below w.heap.size w w'):Own k e B w' g n xs:=
  World.ownsRow.kept h ⟨hb.os,hb.tape,hb.output,hb.size,fun i hi _=>hb.block i hi⟩ (row:=none) (.inr (by simp [Value.ownBlock]))
theorem Own.cap (h:Own k e B w g n xs):n≤maxLen:=by
  rcases h.2 with ⟨h,_⟩|⟨_,cap,_,h,_,_,hn,hc,_⟩
  · cases h
  · simp only[Value.slice.injEq] at h;omega
theorem Own.rd (h:Own k e B w g n xs):Rd k w (.slice (some ⟨g,0,none⟩) n n) xs:=by
  have hl:=h.len;refine⟨some ⟨g,0,none⟩,n,by rw[hl],by omega,h.cap,?_⟩;by_cases h0:n=0
  · exact .inl (by omega)
  · exact .inr ⟨g,0,rfl,h.lt.2,fun i hi=>by rw[Nat.zero_add];exact h.cell i (by omega)⟩
end
theorem Below.drewN' (w:World) (n:Nat):Below w.heap.size w (w.drewN n):=⟨rfl,rfl,rfl,Nat.le_refl _,fun _ _=>rfl⟩
/-! bits at int -/
theorem ofInt_i64 (a:Nat) (ha:a<9223372036854775808):(BitVec.ofInt 64 (a:Int)).toNat=a:=by
  rw[BitVec.ofInt_natCast,BitVec.toNat_ofNat];exact Nat.mod_eq_of_lt (by omega)
theorem and_limb (n:Int):bits .and .i64 n 1073741823=n % 1073741824:=by
  show IntKind.i64.wrap ((BitVec.ofInt 64 n &&& BitVec.ofInt 64 1073741823).toNat:Int)=_
  have e:(BitVec.ofInt 64 n &&& BitVec.ofInt 64 1073741823).toNat=(n % 18446744073709551616).toNat % 1073741824:=by
    rw[BitVec.toNat_and,BitVec.toNat_ofInt];exact Nat.and_two_pow_sub_one_eq_mod _ 30
  rw[e,IntKind.wrap_i64];omega
theorem or_limb (a b:Int) (ha:0≤a) (ha':a<8589934592) (hb:0≤b) (hb':b<1073741824):bits .or .i64 (a * 1073741824) b=a * 1073741824+b:=by
  obtain⟨x,rfl⟩:=Int.eq_ofNat_of_zero_le ha;obtain⟨y,rfl⟩:=Int.eq_ofNat_of_zero_le hb;show IntKind.i64.wrap ((BitVec.ofInt 64 ((x:Int) * 1073741824) ||| BitVec.ofInt 64 (y:Int)).toNat:Int)=_;have e1:((x:Int) * 1073741824)=((x * 1073741824:Nat):Int):=by simp
  rw[e1,BitVec.toNat_or,ofInt_i64 _ (by omega),ofInt_i64 _ (by omega)];have e2:x * 1073741824 ||| y=x * 1073741824+y:=nat_join 30 _ _ (by omega) (by omega)
  rw[e2,IntKind.wrap_i64];omega
end Go.Proofs.YtabgkfjfmjdfiaaGreatDoor
