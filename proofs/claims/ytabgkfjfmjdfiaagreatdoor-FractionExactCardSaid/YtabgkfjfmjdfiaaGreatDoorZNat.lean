import Derived.Test.YtabgkfjfmjdfiaaGreatDoorZAdd
set_option linter.unusedSectionVars false
set_option linter.unusedSimpArgs false
set_option linter.unusedVariables false
namespace Go.Proofs.YtabgkfjfmjdfiaaGreatDoor.Zn
open Go.RowKit Lmb
variable [Zone]
omit [Zone] in
theorem Zs {xs:List Int} {n:Nat} (h:Dig xs n) (hn:(n:Int)<pw 256):xs.length≤256:=(h.len_le 256).2 hn
theorem mul_nat {a b:Value} {m n:Nat} {w:World} (ha:NatAt w a m) (hb:NatAt w b n) (hm:(m:Int)<pw 256) (hn:(n:Int)<pw 256) (hmn:((m * n:Nat):Int)<pw 256) :
    Calls Tryz.prog 13 #[a,b] w (RetNat (m * n) w):=by
  obtain⟨xs,r1,d1⟩:=ha;obtain⟨ys,r2,d2⟩:=hb;have s1:=Zs d1 hm;have s2:=Zs d2 hn;exact mul_lists a b xs ys w m n r1 r2 d1.limbs d2.limbs (by omega) (by omega) d1.val d2.val fun os h=>Zs (h.done d1.val d2.val) hmn
theorem add_nat {a b:Value} {m n:Nat} {w:World} (ha:NatAt w a m) (hb:NatAt w b n) (hmn:((m+n:Nat):Int)<pw 256) :
    Calls Tryz.prog 8 #[a,b] w (RetNat (m+n) w):=by
  obtain⟨xs,r1,d1⟩:=ha;obtain⟨ys,r2,d2⟩:=hb;have s1:=Zs d1 (by omega);have s2:=Zs d2 (by omega);exact add_lists a b xs ys w m n r1 r2 d1.limbs d2.limbs (by omega) (by omega) d1.val d2.val fun zs h=>Zs h hmn
theorem small_nat {a:Value} {n c:Nat} {b:Int} {w:World} (ha:NatAt w a n) (hn:(n:Int)<pw 256) (hb:b=c) (hb0:1≤b) (hb1:b≤1073741824) :
    Calls Tryz.prog 75 #[a,.int .i64 b] w (RetSmall n c w):=by
  obtain⟨xs,r1,d1⟩:=ha;have s1:=Zs d1 hn;exact small_lists a b xs w n c r1 d1.limbs (by omega) hb0 hb1 d1.val hb
theorem Below.next {a b c:World} (h:Below a.heap.size a b) (k:Below b.heap.size b c):Below a.heap.size a c:=h.trans (k.mono h.size)
end Go.Proofs.YtabgkfjfmjdfiaaGreatDoor.Zn
