import Derived.Test.YtabgkfjfmjdfiaaGreatDoorZDivA
import Derived.Test.YtabgkfjfmjdfiaaGreatDoorPk3
import Derived.Test.YtabgkfjfmjdfiaaGreatDoorShelf
import Derived.StillTailTactics
set_option linter.unusedSectionVars false
set_option linter.unusedSimpArgs false
set_option linter.unusedVariables false
namespace Go.Proofs.YtabgkfjfmjdfiaaGreatDoor.Zn
open Go.RowKit Lmb
variable [Zone]
attribute [local go_sem] and_limb
theorem grown_setCell (w:World) (cb o:Nat) (u:Value):w.grownBy (w.setCell ⟨cb,o,none⟩ u) (some cb):=
  ⟨rfl,rfl,rfl,by simp [World.setCell],fun i _ hne=>Below.heap_setCell w ⟨cb,o,none⟩ u i (fun e=>hne (by rw[e]))⟩
theorem Own.other {k:IntKind} {e:TypeId} {B:Nat} {w:World} {g n:Nat} {xs:List Int} (h:Own k e B w g n xs) {g':Nat} (hne:g≠g') (i:Nat) (u:Value):Own k e B (w.setCell ⟨g',i,none⟩ u) g n xs:=
  ⟨h.1.kept (grown_setCell w g' i u) (.inr (by simp [Value.ownBlock];omega)),h.2⟩
theorem Rd.other {k:IntKind} {w:World} {b off n c:Nat} {xs:List Int} (h:Rd k w (.slice (some ⟨b,off,none⟩) n c) xs) {g:Nat} (hne:b≠g) (i:Nat) (u:Value):Rd k (w.setCell ⟨g,i,none⟩ u) (.slice (some ⟨b,off,none⟩) n c) xs:=by
  obtain⟨ad,cap,e,h1,h2,h3⟩:=h;refine⟨ad,cap,e,h1,⟨h2.1,by simpa [World.setCell] using h2.2.1,h2.2.2⟩,?_⟩;simp only[Value.slice.injEq] at e;obtain⟨rfl,_,_⟩:=e;rcases h3 with h3|⟨b',off',h4,hlt,hc⟩
  · exact .inl h3
  · simp only[Option.some.injEq,Addr.mk.injEq] at h4
    obtain⟨rfl,rfl,_⟩:=h4;exact .inr ⟨b,off,rfl,by simpa [World.setCell] using hlt,fun j hj=>(World.cell?_of_block (w:=w) (a:=⟨b,off+j,none⟩) (Below.heap_setCell w ⟨g,i,none⟩ u b hne)).trans (hc j hj)⟩
theorem hwin_done {A V:Int} {u q v:List Int} {lu lq j n:Nat} {D d g:Int} (hw:Window u V n j D d ((u.getD (j+n) 0 * 1073741824+u.getD (j+n - 1) 0) * 1073741824+u.getD (j+n - 2) 0)) (h:DivInv A V u q lu lq (j+1)) (hv:Divisor v V n)
    (hg:GuessOk (u.getD (j+n) 0) (u.getD (j+n - 1) 0) (u.getD (j+n - 2) 0) (v.getD (n - 1) 0) (v.getD (n - 2) 0) g) (_hj:j+n<lu):D<(g+1) * V∧g * V≤D+V:=by
  have v1:=val_lt (Qy hv.limbs (n - 2));rw[List.length_take,Nat.min_eq_left (by have:=hv.len;omega)] at v1;have:=h.ulen;exact Go.Proofs.YtabgkfjfmjdfiaaGreatDoor.Lmb.GuessOk.true hg (Zu (n - 2)) hw.eq hw.d0 hw.d1 hv.split (Qp (Qy hv.limbs (n - 2))) v1 hv.lead (Qh hv.limbs (n - 2)).1 hw.lt hw.nonneg
theorem own_base {k:IntKind} {e:TypeId} {B B':Nat} {w:World} {g n:Nat} {xs:List Int} (h:Own k e B w g n xs) (hb:B'≤B) (hN:Zone.N≤B'):Own k e B' w g n xs:=by
  obtain⟨⟨h1,h2⟩,_⟩:=h;refine⟨⟨h1,?_⟩,hN⟩;rcases h2 with h2|⟨g',cap,cur,r1,r2,r3⟩
  · exact .inl h2
  · exact .inr ⟨g',cap,cur,r1,Nat.le_trans hb r2,r3⟩
theorem guess_v (high next third lead second:Int) (w:World) (h0:0≤high) (h1:high≤lead) (n0:0≤next) (n1:next<1073741824) (t0:0≤third) (t1:third<1073741824)
    (l0:1≤lead) (l1:lead<1073741824) (s0:0≤second) (s1:second<1073741824) :
    Calls Tryz.prog 78 #[.int .i64 high,.int .i64 next,.int .i64 third,.int .i64 lead,.int .i64 second] w fun e w'=>e=.returned (.int .i64 (guessI high next third lead second))∧∃ n,w'=w.drewN n:=
  (guess_calls high next third lead second w h0 h1 n0 n1 t0 t1 l0 l1 s0 s1).mono fun e w' ⟨g,he,hg,hw⟩=>⟨by rw[guessI_eq hg];exact he,hw⟩
theorem guessI_ok (high next third lead second:Int) (w:World) (h0:0≤high) (h1:high≤lead) (n0:0≤next) (n1:next<1073741824) (t0:0≤third) (t1:third<1073741824)
    (l0:1≤lead) (l1:lead<1073741824) (s0:0≤second) (s1:second<1073741824):GuessOk high next third lead second (guessI high next third lead second):=by
  have:=guess_calls high next third lead second w h0 h1 n0 n1 t0 t1 l0 l1 s0 s1 []
  obtain⟨e,w',fr,⟨g,_,hg,_⟩,_⟩:=this;rw[guessI_eq hg];exact hg
structure DivMem (B:Nat) (w:World) (gu gv gq lu lv lq:Nat) (us vs qs:List Int) (w0:World):Prop where
  u:Own .i64 3 B w gu lu us
  v:Own .i64 3 B w gv lv vs
  q:Own .i64 3 B w gq lq qs
  bel:Below B w0 w
section
variable {B:Nat} {w w0:World} {gu gv gq lu lv lq:Nat} {us vs qs:List Int}
theorem DivMem.drewN (h:DivMem B w gu gv gq lu lv lq us vs qs w0) (n:Nat):DivMem B (w.drewN n) gu gv gq lu lv lq us vs qs w0:=
  ⟨h.u.drewN n,h.v.drewN n,h.q.drewN n,Below.drewN h.bel n⟩
theorem DivMem.storeU (h:DivMem B w gu gv gq lu lv lq us vs qs w0) (huv:gu≠gv) (huq:gu≠gq) (i:Nat) (x:Int):DivMem B (w.setCell ⟨gu,i,none⟩ (.int .i64 x)) gu gv gq lu lv lq (us.set i x) vs qs w0:=
  ⟨h.u.store i x,h.v.other (Ne.symm huv) i _,h.q.other (Ne.symm huq) i _,h.bel.setCell h.u.lt.1 _⟩
theorem DivMem.storeQ (h:DivMem B w gu gv gq lu lv lq us vs qs w0) (huq:gu≠gq) (hvq:gv≠gq) (i:Nat) (x:Int):DivMem B (w.setCell ⟨gq,i,none⟩ (.int .i64 x)) gu gv gq lu lv lq us vs (qs.set i x) w0:=
  ⟨h.u.other huq i _,h.v.other hvq i _,h.q.store i x,h.bel.setCell h.q.lt.1 _⟩
end
omit [Zone] in
theorem bitLenAux_lt:∀ (f x:Nat),x<2 ^ f→x<2 ^ Lib.bitLenAux f x
  | 0,x,h=>by simp [Lib.bitLenAux] at h ⊢;omega
  | f+1,x,h=>by
    simp only[Lib.bitLenAux];split
    · rename_i h0;subst h0;simp
    · have:=bitLenAux_lt f (x / 2) (by rw[Nat.pow_succ] at h;omega)
      rw[Nat.add_comm,Nat.pow_succ];omega
theorem bitLen_limb {y:Int} (h1:1≤y) (h2:y<1073741824):y<2 ^ Lib.bitLen y.toNat∧1≤Lib.bitLen y.toNat∧Lib.bitLen y.toNat≤30:=by
  have e30:(2:Nat) ^ 30=1073741824:=by decide
  have hle:=Lib.bitLen_le y.toNat 30 (by decide) (by omega);have hlt:y.toNat<2 ^ Lib.bitLen y.toNat:=bitLenAux_lt 64 y.toNat (by omega);have hc:((2 ^ Lib.bitLen y.toNat:Nat):Int)=(2:Int) ^ Lib.bitLen y.toNat:=by simp
  refine⟨by omega,?_,hle⟩;rcases (show Lib.bitLen y.toNat=0∨1≤Lib.bitLen y.toNat by omega) with h|h
  · rw[h] at hlt;simp at hlt;omega
  · exact h
set_option maxRecDepth 100000 in
set_option maxHeartbeats 4000000 in
theorem divmod_many (a b:Value) (xs ys:List Int) (m n:Nat) (w:World) (ra:Rd .i64 w a xs) (dx:Dig xs m) (rb:Rd .i64 w b ys) (dy:Dig ys n) (hm:(m:Int)<pw 256) (hge:n≤m) (h2:2≤ys.length) :
    Calls Tryz.prog 15 #[a,b] w (RetDiv m n w):=by
  have hcm:¬ cmpI (m:Int) (n:Int)<0:=by
    unfold cmpI;split
    · omega
    · split<;>omega
  have hcl:∀ v,NatAt w v n→Calls Tryz.prog 20 #[a,v] w (RetInt (cmpI m n) w):=fun v hv=>compare_nat ⟨xs,ra,dx⟩ hv;generalize cmpI (m:Int) (n:Int)=c at hcl hcm;have HCM:=Lib.hid hcl;have sx:=Zs dx hm;have hyx:=dy.mono_len dx hge;have hN:=ra.zone;obtain⟨aa,ca,rfl,_⟩:=id ra;have HT:=Lib.hid (trim_of_norm dy.norm);have hy1:((ys.length:Int) == 0)=false:=by rw[beq_eq_false_iff_ne];omega
  have hy2:((ys.length:Int) == 1)=false:=by rw[beq_eq_false_iff_ne];omega
  have DX:=Lib.hid dx;have DY:=Lib.hid dy;have HM:=Lib.hid hm;obtain⟨i0,hi,hz0,hz1,hz2⟩:=info_parts Zc;clear hcl dx dy hm
  go_enter Tryz.func15,Tryz.ntmps15
  go_wp2_with fail
  refine (trim_rd rb).mono ?_;rintro e w' ⟨v,rfl,hv,rfl⟩;rw[HT.out] at hv;have HV:=Lib.hid (HCM.out _ ⟨ys,hv,DY.out⟩);have rv:=hv;obtain⟨ad,cap,rfl,b1,b2,h3⟩:=hv
  obtain⟨bb,ob,rfl,hbb,hcb⟩:∃ b off,ad=some ⟨b,off,none⟩∧b<w.heap.size∧∀ i,i<ys.length→w.cell? ⟨b,off+i,none⟩=some (.int .i64 (ys.getD i 0)):=by
    rcases h3 with h|h
    · omega
    · exact h
  have hcy:=hcb (ys.length - 1) (by omega);have by1:=Qh DY.out.limbs (ys.length - 1)
  have hy0:1≤ys.getD (ys.length - 1) 0:=by
    have h:ys.getD (ys.length - 1) 0≠0:=DY.out.norm (ys.getD (ys.length - 1) 0) (by
      rw[List.getLast?_eq_getElem?];simp [List.getD,show ys.length - 1<ys.length by omega])
    omega
  obtain⟨y,hy⟩:∃ y,ys.getD (ys.length - 1) 0=y:=⟨_,rfl⟩;rw[hy] at hcy by1 hy0;have HY:=Lib.hid hy;unfold maxLen at b2;clear hcb h3 HCM HT rb hy
  go_wp2_with fail
  refine HV.out.mono ?_;rintro e w' ⟨rfl,d,rfl⟩;clear HV
  go_wp2_with fail
  obtain⟨hL0,hL1,hL2⟩:=bitLen_limb hy0 by1.2;have hroom:=lead_room hL0 hL2;have HLEN:=Lib.hid (Tryz.bits_Len y (w.drewN d) (by omega) (by omega));generalize Lib.bitLen y.toNat=L at hL0 hL1 hL2 hroom HLEN;obtain⟨s,hs⟩:∃ s,s=30 - L:=⟨_,rfl⟩;have hsL:(30:Int) - (L:Int)=(s:Int):=by omega
  have hs29:s≤29:=by omega
  rw[← hs,← HY.out] at hroom;have HR:=Lib.hid hroom;clear hs hroom hL0;refine HLEN.out.mono ?_;rintro e w' ⟨rfl,rfl⟩
  go_wp2_with fail
  clear hsL HLEN;have hB1:=Below.drewN' w d;refine (shifted_lists _ s xs (w.drewN d) (ra.below hB1) DX.out.limbs (by omega) hs29).mono ?_;rintro e w1 ⟨us0,rfl,hsu,ownU,hbU⟩;have HSU:=Lib.hid hsu;have hB2:=Below.next hB1 hbU;clear hsu hbU ra
  go_wp2_with fail
  refine (shifted_lists _ s ys w1 (rv.below hB2) DY.out.limbs (by omega) hs29).mono ?_;rintro e w2 ⟨vs,rfl,hsv,ownV,hbV⟩;have HSV:=Lib.hid hsv;have hB3:=Below.next hB2 hbV;have ownU2:=ownU.below hbV;have hguv:w.heap.size<w1.heap.size:=ownU.lt.2;clear hsv hbV hB2 rv ownU;have hsz2:w.heap.size≤w2.heap.size:=hB3.size
  go_wp2_with (at_make;go_must (refine wpList_make_full _ rfl (.tmp 71) (.tmp 71) 24 rfl w.heap.size 3 i0 (.int .i64 0) 1 Tryz.underlying24 hi hz0 hz1 .i64 .i64 _ _ (xs.length - ys.length+1) rfl rfl (by omega) (by omega) ?b2 ?b3 hsz2 ?_))
  case b2=>rw[hz2];omega
  case b3=>unfold maxLen;omega
  intro w3 hown hgrow;have ownQ:=own_made hown hN;have hB4:Below w.heap.size w w3:=hB3.grown hgrow hsz2 (by simp);have hguq:w.heap.size<w2.heap.size:=ownU2.lt.2;have hgvq:w1.heap.size<w2.heap.size:=ownV.lt.2;have grow3:Below w2.heap.size w2 w3:=⟨hgrow.os,hgrow.tape,hgrow.output,hgrow.size,fun k hk=>hgrow.block k hk (by simp)⟩;have ownV3:Own .i64 3 w.heap.size w3 w1.heap.size (ys.length+1) vs:=own_base (ownV.below grow3) (by omega) hN;have hmem:DivMem w.heap.size w3 w.heap.size w1.heap.size w2.heap.size (xs.length+1) (ys.length+1) (xs.length - ys.length+1) us0 vs (List.replicate (xs.length - ys.length+1) 0) w:=⟨ownU2.below grow3,ownV3,ownQ,hB4⟩;have hdv:=divisor_of h2 rfl DY.out.limbs DY.out.norm HSV.out hs29 HR.out;have hst:=div_start (by omega) rfl hyx DX.out.limbs DY.out.limbs DY.out.norm HSU.out hs29
  have hn0:0<n:=by
    have:=DY.out.len_zero;omega
  have HDV:=Lib.hid hdv;have HST:=Lib.hid hst;have HMEM:=Lib.hid hmem;have hgu0:w.heap.size≤w.heap.size:=Nat.le_refl _;clear hdv hst hmem ownQ ownV ownV3 ownU2 hB1 hB3 hB4 hown hgrow grow3 HSU HSV HR HY by1 hcy hy0 hy1 hy2;obtain⟨gv,hgv⟩:∃ g,g=w1.heap.size:=⟨_,rfl⟩;obtain⟨gq,hgq⟩:∃ g,g=w2.heap.size:=⟨_,rfl⟩;rw[← hgv] at HMEM hguv hgvq ⊢;rw[← hgq] at HMEM hguq hgvq ⊢;clear hgv hgq hsz2;have hV1:ys.length≤256:=Nat.le_trans hyx sx
  go_wp2
  go_loopg [14] (xs.length - ys.length+1) (fun m jv wr=>jv=.int .i64 ((m:Int) - 1)∧m≤xs.length - ys.length+1∧∃ us qs,DivInv (val xs * 2 ^ s) (val ys * 2 ^ s) us qs (xs.length+1) (xs.length - ys.length+1) m∧DivMem w.heap.size wr w.heap.size gv gq (xs.length+1) (ys.length+1) (xs.length - ys.length+1) us vs qs w)
  case atStart=>exact⟨congrArg (Value.int .i64) (by omega),Nat.le_refl _,us0,_,HST.out,HMEM.out⟩
  case round=>
    obtain⟨hj14,hj,us,qs,hdi,hmem⟩:=hrel;have HDI:=Lib.hid hdi;have HM2:=Lib.hid hmem;clear hdi hmem HMEM HST;cases gk with
    | zero=>
      subst hj14;obtain⟨hdq,hval⟩:=div_end DX.out.val DY.out.val hn0 hs29 HDI.out;have hlow:=div_low HDI.out HDV.out.lt (show ys.length≤xs.length+1 by omega);rw[hval] at hlow;have hru:=HM2.out.u.rd;have hlu:=HM2.out.u.len
      have hrt:Rd .i64 wr (.slice (some ⟨w.heap.size,0,none⟩) ys.length (xs.length+1)) (us.take ys.length):=by
        rw[← hlu] at hru;have:=hru.take ys.length (by omega)
        rwa [hlu] at this
      have hlt:Qv (us.take ys.length):=Qy HDI.out.ulimbs _;have hdr:=Ze hlt;rw[hlow,Int.toNat_natCast] at hdr;have HDQ:=Lib.hid hdq;have HDR:=Lib.hid hdr;have HRT:=Lib.hid hrt;clear hdq hval hlow hru hlu hrt hlt hdr
      go_wp2_with fail
      refine (trim_rd HRT.out).mono ?_;rintro e w' ⟨v,rfl,hv,rfl⟩;have RV:=Lib.hid hv;have hsr:(trim (us.take ys.length)).length≤256:=Nat.le_trans (trim_len _) (Nat.le_trans (by simp;omega) hV1);generalize trim (us.take ys.length)=rs at hv RV HDR hsr;obtain⟨ad,cr,rfl,r1,r2,r3⟩:=hv;unfold maxLen at r2;have hbel:=HM2.out.bel;have hszr:=hbel.size;clear HRT
      go_wp2_with (at_make;go_must (refine wpList_make_full _ rfl (.tmp 183) (.tmp 183) 24 rfl wr.heap.size 3 i0 (.int .i64 0) 1 Tryz.underlying24 hi hz0 hz1 .i64 .i64 _ _ rs.length rfl rfl (by omega) (by omega) ?d2 ?d3 (Nat.le_refl _) ?_))
      case d2=>rw[hz2];omega
      case d3=>unfold maxLen;omega
      intro w4 hown4 hgrow4;have own4:=own_made hown4 (Nat.le_trans hN hszr);have bel4:Below wr.heap.size wr w4:=(Below.refl _ _).grown hgrow4 (Nat.le_refl _) (by simp);have RV4:=Lib.hid (RV.out.below bel4);have HB4:=Lib.hid (Below.next hbel bel4);have OQ4:=Lib.hid (HM2.out.q.below bel4);have O4:=Lib.hid own4;have hgr:wr.heap.size<w4.heap.size:=own4.lt.2;have hqr:gq<wr.heap.size:=HM2.out.q.lt.2
      have hbg:∀ b off,ad=some (⟨b,off,none⟩:Addr)→rs.length≠0→b≠wr.heap.size:=by
        intro b off e hne;rcases r3 with h|⟨b',off',h,hlt,_⟩
        · exact absurd h hne
        · rw[h] at e
          simp only[Option.some.injEq,Addr.mk.injEq] at e;omega
      have HBG:=Lib.hid hbg;clear hown4 hgrow4 own4 bel4 hbel hbg;obtain⟨gr,hgrd⟩:∃ g,g=wr.heap.size:=⟨_,rfl⟩;rw[← hgrd] at O4 hgr hqr hszr HBG ⊢;clear hgrd
      go_wp2
      go_loopg [23] rs.length (fun k iv wx=>iv=.int .i64 ((k:Int) - 1)∧k≤rs.length∧∃ os,BackInv rs os s k∧Own .i64 3 gr wx gr rs.length os∧Rd .i64 wx (.slice ad rs.length cr) rs∧Own .i64 3 w.heap.size wx gq (xs.length - ys.length+1) qs∧Below w.heap.size w wx)
      case atStart=>exact⟨rfl,Nat.le_refl _,_,BackInv.start rs s,O4.out,RV4.out,OQ4.out,HB4.out⟩
      case round=>
        obtain⟨hi23,hk,os,hbi,hown,hrd,hq5,hbel5⟩:=hrel;have HBI:=Lib.hid hbi;have HRD:=Lib.hid hrd;have HQ5:=Lib.hid hq5;clear hbi hrd hq5 O4 RV4 OQ4 HB4;cases gk with
        | zero=>
          subst hi23;have hdo:=HBI.out.done HDR.out.val;rw[Nat.mul_div_cancel _ (Nat.two_pow_pos s)] at hdo;have HDO:=Lib.hid hdo;have HRO:=Lib.hid hown.rd;clear hdo
          go_wp2_with fail
          refine (trim_rd HQ5.out.rd).mono ?_;rintro e w' ⟨vq,rfl,hvq,rfl⟩;have HVQ:=Lib.hid hvq;clear hvq
          go_wp2_with fail
          refine (trim_rd HRO.out).mono ?_;rintro e w' ⟨vr,rfl,hvr,rfl⟩
          go_wp2
          go_ret3
          exact⟨vq,vr,rfl,⟨_,HVQ.out,HDQ.out⟩,⟨_,hvr,HDO.out⟩,hbel5⟩
        | succ i=>
          have e23:((i+1:Nat):Int) - 1=(i:Int):=by omega
          rw[e23] at hi23;subst hi23;clear e23;have hir:i<rs.length:=by omega
          obtain⟨br,orr,rfl,hbr,hcr⟩:∃ b off,ad=some ⟨b,off,none⟩∧b<wr.heap.size∧∀ i,i<rs.length→wr.cell? ⟨b,off+i,none⟩=some (.int .i64 (rs.getD i 0)):=by
            obtain⟨ad',cr',e,_,_,h3⟩:=HRD.out;simp only[Value.slice.injEq] at e;obtain⟨rfl,_,rfl⟩:=e;rcases h3 with h|h
            · omega
            · exact h
          have hcx:=hcr i hir;have hst:=HBI.out.step HDR.out.limbs hs29 hir;have b0:=Qh HDR.out.limbs i;have b1:=Qh HDR.out.limbs (i+1);have RB:=(at_calls (.slice (some ⟨br,orr,none⟩) rs.length cr) (i+1) rs _ (HRD.out.below ((Below.refl _ _).drew))).mono (fun e w' (h:e=.returned (.int .i64 (rs.getD (i+1) 0))∧wr.drew=w')=>(And.intro h.1 h.2.symm:e=.returned (.int .i64 (rs.getD (i+1) 0))∧w'=wr.drew));have ei:((i+1:Nat):Int)=(i:Int)+1:=by omega
          rw[ei] at RB;have hfr:=hown.frozen i;have hco:=hown.cell i hir;obtain⟨x0,hx0⟩:∃ x,rs.getD i 0=x:=⟨_,rfl⟩;obtain⟨x1,hx1⟩:∃ x,rs.getD (i+1) 0=x:=⟨_,rfl⟩;rw[hx0] at hcx b0 hst;rw[hx1] at RB b1 hst;have RB:=Lib.hid RB;have HST6:=Lib.hid hst;have hor:=or_limb x1 x0 b1.1 (by omega) b0.1 b0.2;have e1:=Zk ((i:Int)+1) (by omega);have e2:=Zk (x1 * 1073741824) (by omega);clear hcr hx0 hx1 hst ei
          go_wp2
          go_still_tail 16,(by kernel_rfl)
          still_call (RB.out)
          repeat still_step
          refine wpStill_nil ?_;clear e1 e2
          go_wp2
          go_roundg i
          case measure=>omega
          case rel=>exact⟨rfl,by omega,_,HST6.out,(hown.store _ _).drew,(HRD.out.other (HBG.out br orr rfl (by omega)) _ _).below ((Below.refl _ _).drew),(HQ5.out.other (by omega) _ _).drew,(hbel5.setCell (by omega) _).drew⟩
    | succ j=>
      have e14:((j+1:Nat):Int) - 1=(j:Int):=by omega
      rw[e14] at hj14;subst hj14;clear e14;have hjl:j+ys.length≤xs.length:=by omega
      obtain⟨D,d2,hwin⟩:=window HDI.out HDV.out (show j+ys.length<xs.length+1 by omega);have b1:=Qh HDI.out.ulimbs (j+ys.length);have b2:=Qh HDI.out.ulimbs (j+ys.length - 1);have b3:=Qh HDI.out.ulimbs (j+ys.length - 2);have b4:=Qh HDV.out.limbs (ys.length - 1);have b5:=Qh HDV.out.limbs (ys.length - 2);have b6:=HDV.out.lead;have hhigh:=hwin.high HDV.out b2.1 b3.1;have hgv:=fun W=>guess_v _ _ _ _ _ W b1.1 hhigh b2.1 b2.2 b3.1 b3.2 b6 b4.2 b5.1 b5.2;have hok:=guessI_ok _ _ _ _ _ wr b1.1 hhigh b2.1 b2.2 b3.1 b3.2 b6 b4.2 b5.1 b5.2;have c1:=HM2.out.u.cell (j+ys.length) (by omega);have c2:=HM2.out.u.cell (j+ys.length - 1) (by omega);have c3:=HM2.out.u.cell (j+ys.length - 2) (by omega);have c4:=HM2.out.v.cell (ys.length - 1) (by omega);have c5:=HM2.out.v.cell (ys.length - 2) (by omega);have HWIN:=Lib.hid hwin;clear hwin hhigh;generalize guessI (us.getD (j+ys.length) 0) (us.getD (j+ys.length - 1) 0) (us.getD (j+ys.length - 2) 0) (vs.getD (ys.length - 1) 0) (vs.getD (ys.length - 2) 0)=g at hgv hok;have HOK:=Lib.hid hok;have g0:=hok.g0;have g1:=hok.g1;have HG:=Lib.hid hgv;clear hok hgv;have e1:=Zk ((j:Int)+ys.length) (by omega);have e2:=Zk ((j:Int)+ys.length - 1) (by omega);have e3:=Zk ((j:Int)+ys.length - 2) (by omega);have e4:=Zk ((ys.length:Int) - 1) (by omega);have e5:=Zk ((ys.length:Int) - 2) (by omega);have t1:((j:Int)+ys.length).toNat=j+ys.length:=by omega
      have t2:((j:Int)+ys.length - 1).toNat=j+ys.length - 1:=by omega
      have t3:((j:Int)+ys.length - 2).toNat=j+ys.length - 2:=by omega
      have t4:((ys.length:Int) - 1).toNat=ys.length - 1:=by omega
      have t5:((ys.length:Int) - 2).toNat=ys.length - 2:=by omega
      have p1:(0:Int)≤(j:Int)+ys.length:=by omega
      have p2:(1:Int)≤(j:Int)+ys.length:=by omega
      have p3:(2:Int)≤(j:Int)+ys.length:=by omega
      have p4:(1:Int)≤(ys.length:Int):=by omega
      have p5:(2:Int)≤(ys.length:Int):=by omega
      have q1:(j:Int)+ys.length<(xs.length:Int)+1:=by omega
      have q2:(j:Int)+ys.length - 1<(xs.length:Int)+1:=by omega
      have q3:(j:Int)+ys.length - 2<(xs.length:Int)+1:=by omega
      have q4:(ys.length:Int) - 1<(ys.length:Int)+1:=by omega
      have q5:(ys.length:Int) - 2<(ys.length:Int)+1:=by omega
      go_wp2
      go_quiet ((go_at_call 78;exact Calls.quiet_of (HG.out _)))
      clear e1 e2 e3 e4 e5 t1 t2 t3 t4 t5 p1 p2 p3 p4 p5 q1 q2 q3 q4 q5 c1 c2 c3 c4 c5
      go_wp2
      obtain⟨wo,hwo⟩:∃ wo:World,wo=wr:=⟨_,rfl⟩;subst hwo;have hsv:=hwin_done HWIN.out HDI.out HDV.out HOK.out (show j+ys.length<xs.length+1 by omega);have HSV2:=Lib.hid hsv;clear hsv
      go_loopg [114,16] (ys.length+1) (fun m iv cv wr=>∃ i:Nat,iv=.int .i64 i∧i+m=ys.length+1∧∃ (c:Int) (us2:List Int),cv=.int .i64 c∧SubMul us2 us vs g j i c∧DivMem w.heap.size wr w.heap.size gv gq (xs.length+1) (ys.length+1) (xs.length - ys.length+1) us2 vs qs w)
      case atStart=>exact⟨0,rfl,by omega,0,us,rfl,SubMul.start HDI.out.ulimbs vs g j,HM2.out.drewN _⟩
      case round=>
        obtain⟨i,rfl,hi2,cc,us2,rfl,hsm,hmem3⟩:=hrel;have hc0:=hsm.c0;have hc1:=hsm.c1;have HSM:=Lib.hid hsm;have HM3:=Lib.hid hmem3;clear hsm hmem3 HM2;cases gk with
        | zero=>
          obtain rfl:i=ys.length+1:=by omega
          by_cases hneg:cc<0
          · go_wp2
            obtain⟨w5,hw5⟩:∃ w5:World,w5=wr:=⟨_,rfl⟩;subst hw5
            go_loopg [148,16] (ys.length+1) (fun m iv cv wr=>∃ i:Nat,iv=.int .i64 i∧i+m=ys.length+1∧∃ (c:Int) (ws:List Int),cv=.int .i64 c∧AddBack ws us2 vs j i c∧DivMem w.heap.size wr w.heap.size gv gq (xs.length+1) (ys.length+1) (xs.length - ys.length+1) ws vs qs w)
            case atStart=>exact⟨0,rfl,by omega,0,us2,rfl,AddBack.start HSM.out.limbs vs j,HM3.out⟩
            case round=>
              obtain⟨i,rfl,hi2,c2,ws,rfl,hab,hmem4⟩:=hrel;have hd0:=hab.c0;have hd1:=hab.c1;have HAB:=Lib.hid hab;have HM4:=Lib.hid hmem4;clear hab hmem4 HM3;cases gk with
              | zero=>
                obtain rfl:i=ys.length+1:=by omega
                have hend:=back_end HDI.out HDV.out (show j+ys.length<xs.length+1 by omega) (show j<xs.length - ys.length+1 by omega) HWIN.out g1 HSV2.out.2 HSM.out hneg HAB.out g0;have HE:=Lib.hid hend.2;have hg1:=hend.1;have hfr:=HM4.out.q.frozen j;have hcell:=HM4.out.q.cell j (by omega);clear hend
                go_wp2
                go_roundg j
                case measure=>omega
                case rel=>exact⟨rfl,by omega,_,_,HE.out,HM4.out.storeQ (by omega) (by omega) j (g - 1)⟩
              | succ m2=>
                have hil:i<ys.length+1:=by omega
                have hji:j+i<xs.length+1:=by omega
                have hst:=HAB.out.step HDV.out.limbs (by rw[HDV.out.len];exact hil) (by rw[HSM.out.len,HDI.out.ulen];exact hji);have bo:=Qh HAB.out.limbs (j+i);have bv:=Qh HDV.out.limbs i;have cu:=HM4.out.u.cell (j+i) hji;have cv:=HM4.out.v.cell i hil;have fu:=HM4.out.u.frozen (j+i);obtain⟨o,ho⟩:∃ o,ws.getD (j+i) 0=o:=⟨_,rfl⟩;obtain⟨x,hx⟩:∃ x,vs.getD i 0=x:=⟨_,rfl⟩;rw[ho] at hst bo cu;rw[hx] at hst bv cv;have HS3:=Lib.hid hst;clear hst ho hx;have e1:=Zk ((j:Int)+i) (by omega);have e2:=Zk (o+x) (by omega);have e3:=Zk (o+x+c2) (by omega);have t1:((j:Int)+i).toNat=j+i:=by omega
                have p1:(0:Int)≤(j:Int)+i:=by omega
                have q1:(j:Int)+i<(xs.length:Int)+1:=by omega
                have q2:(i:Int)<(ys.length:Int)+1:=by omega
                go_wp2
                go_quiet (fail)
                clear e1 e2 e3 t1 p1 q1 q2
                go_wp2
                go_roundg m2
                case measure=>omega
                case rel=>exact⟨i+1,by go_num,by omega,_,_,rfl,HS3.out,(HM4.out.storeU (by omega) (by omega) (j+i) _).drewN _⟩
          · have hend:=sub_end HDI.out HDV.out (show j+ys.length<xs.length+1 by omega) (show j<xs.length - ys.length+1 by omega) HWIN.out g0 g1 HSV2.out.1 HSM.out hneg
            have HE:=Lib.hid hend;have hfr:=HM3.out.q.frozen j;have hcell:=HM3.out.q.cell j (by omega);clear hend
            go_wp2
            go_roundg j
            case measure=>omega
            case rel=>exact⟨rfl,by omega,_,_,HE.out,HM3.out.storeQ (by omega) (by omega) j g⟩
        | succ m2=>
          have hil:i<ys.length+1:=by omega
          have hji:j+i<xs.length+1:=by omega
          have hst:=HSM.out.step HDV.out.limbs g0 g1 (by rw[HDV.out.len];exact hil) (by rw[HDI.out.ulen];exact hji);have bo:=Qh HSM.out.limbs (j+i);have bv:=Qh HDV.out.limbs i;have cu:=HM3.out.u.cell (j+i) hji;have cv:=HM3.out.v.cell i hil;have fu:=HM3.out.u.frozen (j+i);obtain⟨o,ho⟩:∃ o,us2.getD (j+i) 0=o:=⟨_,rfl⟩;obtain⟨x,hx⟩:∃ x,vs.getD i 0=x:=⟨_,rfl⟩;rw[ho] at hst bo cu;rw[hx] at hst bv cv;have hp:=limb_prod ⟨g0,g1⟩ bv;have HS3:=Lib.hid hst;clear hst ho hx;have e1:=Zk ((j:Int)+i) (by omega);have e2:=Zk (g * x) (by omega);have e3:=Zk (o - g * x) (by omega);have e4:=Zk (o - g * x+cc) (by omega);have t1:((j:Int)+i).toNat=j+i:=by omega
          have p1:(0:Int)≤(j:Int)+i:=by omega
          have q1:(j:Int)+i<(xs.length:Int)+1:=by omega
          have q2:(i:Int)<(ys.length:Int)+1:=by omega
          go_wp2
          go_quiet (fail)
          clear e1 e2 e3 e4 t1 p1 q1 q2
          go_wp2
          go_roundg m2
          case measure=>omega
          case rel=>exact⟨i+1,by go_num,by omega,_,_,rfl,HS3.out,(HM3.out.storeU (by omega) (by omega) (j+i) _).drewN _⟩
end Go.Proofs.YtabgkfjfmjdfiaaGreatDoor.Zn
