import Derived.Test.YtabgkfjfmjdfiaaGreatDoorZClone
import Derived.Test.YtabgkfjfmjdfiaaGreatDoorZShift
import Derived.Test.YtabgkfjfmjdfiaaGreatDoorZGuess
set_option linter.unusedSectionVars false
set_option linter.unusedSimpArgs false
set_option linter.unusedVariables false
namespace Go.Proofs.YtabgkfjfmjdfiaaGreatDoor.Zn
open Go.RowKit Lmb
variable [Zone]
def RetDiv (m n:Nat) (w:World) (e:Ending) (w':World):Prop:=
  ∃ q r,e=.returned (.tuple #[q,r,.int .i64 0])∧NatAt w' q (m / n)∧NatAt w' r (m % n)∧Below w.heap.size w w'
set_option maxRecDepth 100000 in
set_option maxHeartbeats 1000000 in
theorem divmod_less (a b:Value) (m n:Nat) (w:World) (ha:NatAt w a m) (hb:NatAt w b n) (hm:(m:Int)<pw 256) (hn:0<n) (hlt:m<n) :
    Calls Tryz.prog 15 #[a,b] w (RetDiv m n w):=by
  have HCL:=Lib.hid (fun d=>clone_nat (ha.below (Below.drewN' w d)) hm);have hcm:cmpI (m:Int) (n:Int)=-1:=ZA (by omega)
  have hcl:∀ v,NatAt w v n→Calls Tryz.prog 20 #[a,v] w (RetInt (-1) w):=fun v hv=>by
    have:=compare_nat ha hv
    rwa [hcm] at this
  have HCM:=Lib.hid hcl;have HQ:=Lib.hid (And.intro (Nat.div_eq_of_lt hlt) (Nat.mod_eq_of_lt hlt));obtain⟨ys,r2,d2⟩:=hb;have hy:ys.length≠0:=fun h=>by have:=d2.len_zero.1 h;omega
  have hyz:((ys.length:Int) == 0)=false:=by simpa using hy
  have ht:=trim_of_norm d2.norm;have HT:=Lib.hid ht;clear hcl hcm ht hy
  go_enter Tryz.func15,Tryz.ntmps15
  go_wp2_with fail
  refine (trim_rd r2).mono ?_;rintro e w' ⟨v,rfl,hv,rfl⟩;rw[HT.out] at hv;have hvn:NatAt w v n:=⟨ys,hv,d2⟩;obtain⟨ad,cap,rfl,_⟩:=id hv;have HV:=Lib.hid (HCM.out _ hvn);clear hv hvn
  go_wp2_with fail
  refine HV.out.mono ?_;rintro e w' ⟨rfl,d,rfl⟩
  go_wp2_with fail
  refine (HCL.out d).mono ?_;rintro e w2 ⟨r,rfl,hr,hb2⟩;have hB:=Below.next (Below.drewN' w d) hb2
  go_wp2
  go_ret3
  refine⟨_,r,rfl,?_,?_,hB⟩
  · rw[HQ.out.1];exact⟨[],Rd.nil _ _ hr.zone,Dig.nil⟩
  · rw[HQ.out.2];exact hr
set_option maxRecDepth 100000 in
set_option maxHeartbeats 1000000 in
theorem divmod_one (a b:Value) (m n:Nat) (y:Int) (w:World) (ha:NatAt w a m) (rb:Rd .i64 w b [y]) (db:Dig [y] n) (hm:(m:Int)<pw 256) (hge:n≤m) :
    Calls Tryz.prog 15 #[a,b] w (RetDiv m n w):=by
  have hcm:¬ cmpI (m:Int) (n:Int)<0:=by
    unfold cmpI;split
    · omega
    · split<;>omega
  have hcl:∀ v,NatAt w v n→Calls Tryz.prog 20 #[a,v] w (RetInt (cmpI m n) w):=fun v hv=>compare_nat ha hv;generalize cmpI (m:Int) (n:Int)=c at hcl hcm;have HCM:=Lib.hid hcl;have hyn:y=n:=by have:=db.val;simpa [Qz,QE] using this
  have hy0:y≠0:=by have:=db.norm y (by simp);exact this
  have hyl:=db.limbs y (by simp);have hy1:1≤y:=by omega
  have hy2:y<1073741824:=hyl.2;have HY:=Lib.hid hyn;have HA:=Lib.hid ha;have ht:=trim_of_norm db.norm;have HT:=Lib.hid ht;clear hcl ht hyn hyl hy0
  go_enter Tryz.func15,Tryz.ntmps15
  go_wp2_with fail
  refine (trim_rd rb).mono ?_;rintro e w' ⟨v,rfl,hv,rfl⟩;rw[HT.out] at hv;have HV:=Lib.hid (HCM.out _ ⟨[y],hv,db⟩);obtain⟨ad,cap,rfl,_,_,h3⟩:=hv
  obtain⟨bb,ob,rfl,hbb,hcb⟩:∃ b off,ad=some ⟨b,off,none⟩∧b<w.heap.size∧∀ i,i<[y].length→w.cell? ⟨b,off+i,none⟩=some (.int .i64 ([y].getD i 0)):=by
    rcases h3 with h|h
    · simp at h
    · exact h
  have hc0:w.cell? ⟨bb,ob,none⟩=some (.int .i64 y):=hcb 0 (by simp);simp only[List.length_cons,List.length_nil,Nat.zero_add] at HV ⊢;clear hcb h3 rb db ha
  go_wp2_with fail
  refine HV.out.mono ?_;rintro e w' ⟨rfl,d,rfl⟩;clear HV HCM HT
  go_wp2_with fail
  refine (small_nat (c:=n) (HA.out.below (Below.drewN' w d)) hm HY.out hy1 (by omega)).mono ?_;rintro e w2 ⟨q,rfl,hq,hb2⟩;have hB:=Below.next (Below.drewN' w d) hb2;clear hb2
  go_wp2_with fail
  have hn:0<n:=by have:=HY.out;omega
  have hrn:=Nat.mod_lt m hn
  have hrd:Rd .i64 (w2.alloc (.cells #[.int .i64 ((m:Int) % (n:Int))] 3)) (.slice (some ⟨w2.heap.size,0,none⟩) 1 1) [((m % n:Nat):Int)]:=
    ⟨_,1,rfl,by simp,⟨by simp [maxLen],by have:=hq.zone;simp;omega,.inr fun y hy=>by cases hy;exact Zone.up _ hq.zone⟩,.inr ⟨w2.heap.size,0,rfl,by simp,fun i hi=>by
      obtain rfl:i=0:=by simpa using hi
      simp [World.cell?_alloc_at]⟩⟩
  have bel3:Below w2.heap.size w2 (w2.alloc (.cells #[.int .i64 ((m:Int) % (n:Int))] 3)):=(Below.refl _ _).alloc (Nat.le_refl _) _;have hdr:=Ze (xs:=[((m % n:Nat):Int)]) (by rw[QB];exact⟨by have:=HY.out;omega,QJ⟩);have ev:(val [((m % n:Nat):Int)]).toNat=m % n:=by simp only[Qz,QE];omega
  rw[ev] at hdr;have HF:=Lib.hid (And.intro hdr (And.intro (hq.below bel3) (Below.next hB bel3)));clear hdr ev hq hB bel3 hrn;refine (trim_rd hrd).mono ?_;rintro e w' ⟨r,rfl,hr,rfl⟩;clear hrd
  go_wp2
  go_ret3
  exact⟨q,r,rfl,HF.out.2.1,⟨_,hr,HF.out.1⟩,HF.out.2.2⟩
end Go.Proofs.YtabgkfjfmjdfiaaGreatDoor.Zn
