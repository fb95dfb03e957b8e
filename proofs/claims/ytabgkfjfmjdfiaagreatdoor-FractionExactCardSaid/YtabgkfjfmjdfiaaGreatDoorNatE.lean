import Derived.Test.YtabgkfjfmjdfiaaGreatDoorEv
import Derived.Test.YtabgkfjfmjdfiaaGreatDoorZGcd
set_option linter.unusedSimpArgs false
set_option linter.unusedVariables false
namespace Go.Proofs.YtabgkfjfmjdfiaaGreatDoor
open Eng Lmb Go.RowKit
def Nats (s:SV) (n:Nat):Prop:=∃ (a:Option Addr) (cap sz:Nat) (rd:Nat→Nat→SV) (xs:List Int),s=.sl a xs.length cap sz rd∧(xs.length=0∨sz=1)∧(∀ i,i<xs.length→rd i 0=.i .i64 (xs.getD i 0))∧Dig xs n
abbrev zoneOf (R:Nat→Prop) (w:World):Zn.Zone:=⟨fun b=>R b∨w.heap.size≤b,w.heap.size,fun b h=>.inr h⟩
theorem nat_to {R:Nat→Prop} {w:World} {s:SV} {n:Nat} (hs:s.ok R w) (hn:Nats s n) (hR:∀ b,R b→b<w.heap.size):@Zn.NatAt (zoneOf R w) w s.den n:=by
  obtain⟨a,cap,sz,rd,xs,rfl,hz,hrd,hd⟩:=hn;obtain⟨h1,h2,h3⟩:=hs;refine⟨xs,⟨a,cap,rfl,h1,⟨h2,Nat.le_refl _,?_⟩,?_⟩,hd⟩
  · rcases h3 with h3|⟨blk,off,rfl,hr,_⟩
    · exact .inl h3
    · exact .inr fun x hx=>by cases hx;exact .inl hr
  · rcases h3 with h3|⟨blk,off,rfl,hr,hc⟩
    · exact .inl h3
    rcases hz with hz|rfl
    · exact .inl hz
    · refine .inr ⟨blk,off,rfl,hR _ hr,fun i hi=>?_⟩
      have:=(hc i 0 hi (by omega)).1;rw[hrd i hi,Nat.mul_one,Nat.add_zero] at this;exact this
theorem nat_from {R:Nat→Prop} {w w':World} {v:Value} {n:Nat} (h:@Zn.NatAt (zoneOf R w) w' v n):∃ s,s.den=v∧Nats s n∧s.ok (fun b=>R b∨(w.heap.size≤b∧b<w'.heap.size)) w':=by
  obtain⟨xs,⟨a,cap,rfl,h1,⟨h2,_,hz⟩,h3⟩,hd⟩:=h;refine⟨.sl a xs.length cap 1 (fun i _=>.i .i64 (xs.getD i 0)),rfl,⟨a,cap,1,_,xs,rfl,.inr rfl,fun i _=>rfl,hd⟩,h1,h2,?_⟩;rcases h3 with h3|⟨b,off,rfl,hb,hc⟩
  · exact .inl h3
  · by_cases h0:xs.length=0
    · exact .inl h0
    · refine .inr ⟨b,off,rfl,?_,fun i j hi hj=>⟨?_,rfl,trivial⟩⟩
      · rcases hz with hz|hz
        · exact absurd hz h0
        · rcases hz _ rfl with hr|hr
          · exact .inl hr
          · exact .inr ⟨hr,hb⟩
      · obtain rfl:j=0:=by omega
        rw[Nat.mul_one,Nat.add_zero];exact hc i hi
theorem Zl {F:Frm} {P:Program} {f:FuncId} {fn:Func} {c:Code} {args:List SV} {post:SV→Prop} (hf:P.funcs[f]? = some fn) (hb:fn.body=some c) (hname:(fn.name == "runtime.NumGoroutine")=false)
    (h:∀ (R:Nat→Prop) (w:World),(∀ s∈args,s.ok R w)→(∀ b,R b→b<w.heap.size)→Calls P f (args.map SV.den).toArray w fun e w'=>∃ r,e=.returned r.den∧post r∧r.ok (fun b=>R b∨(w.heap.size≤b∧b<w'.heap.size)) w'∧Below w.heap.size w w') :
    Contract F P f args post:=by
  refine⟨fun vs w=>?_,fun R w hinv hargs hR=>?_⟩
  · have hn:¬ fn.name = "runtime.NumGoroutine" := by simpa using hname
    simp [callFunc,hf,hn,hb]
  · refine (h R w hargs fun b hb=>(hR b hb).1).mono ?_
    rintro e w' ⟨r,he,hp,hok,hbel⟩;exact⟨r,he,hp,hok,⟨hbel.os,hbel.tape,hbel.output,hbel.size,fun b hb _=>hbel.block b hb⟩,F.stab w w' w.heap.size hinv (fun b hm=>F.lt w b hinv hm) fun b hb=>hbel.block b hb⟩
theorem tup2_ok {R:Nat→Prop} {w:World} {s t:SV} (hs:s.ok R w) (ht:t.ok R w):(QW [s,t]).ok R w:=by
  intro j hj
  match j,hj with
  | 0,_=>exact hs
  | 1,_=>exact ht
theorem tup3_ok {R:Nat→Prop} {w:World} {s t u:SV} (hs:s.ok R w) (ht:t.ok R w) (hu:u.ok R w):(QW [s,t,u]).ok R w:=by
  intro j hj
  match j,hj with
  | 0,_=>exact hs
  | 1,_=>exact ht
  | 2,_=>exact hu
theorem Nats.nil {sz:Nat} {rd:Nat→Nat→SV}:Nats (.sl none 0 0 sz rd) 0:=⟨none,0,sz,rd,[],rfl,.inl rfl,fun i hi=>absurd hi (Nat.not_lt_zero _),Dig.nil⟩
def natRes (n:Nat) (r:SV):Prop:=∃ s,r=QW [s,.i .i64 0]∧Nats s n
section
variable (F:Frm) {sa sb:SV} {m n:Nat}
theorem addC (ha:Nats sa m) (hb:Nats sb n) (h:((m+n:Nat):Int)<pw 256):Contract F Tryz.prog 8 [sa,sb] (natRes (m+n)):=by
  refine Zl Tryz.func8 rfl (by kernel_rfl) fun R w hargs hR=>?_;refine (@Zn.add_nat (zoneOf R w) _ _ _ _ w (nat_to (hargs sa (by simp)) ha hR) (nat_to (hargs sb (by simp)) hb hR) h).mono ?_;rintro e w' ⟨v,rfl,hv,hbel⟩;obtain⟨s,rfl,hs,hok⟩:=nat_from hv;exact⟨QW [s,.i .i64 0],rfl,⟨s,rfl,hs⟩,tup2_ok hok trivial,hbel⟩
theorem mulC (ha:Nats sa m) (hb:Nats sb n) (hm:(m:Int)<pw 256) (hn:(n:Int)<pw 256) (h:((m * n:Nat):Int)<pw 256):Contract F Tryz.prog 13 [sa,sb] (natRes (m * n)):=by
  refine Zl Tryz.func13 rfl (by kernel_rfl) fun R w hargs hR=>?_;refine (@Zn.mul_nat (zoneOf R w) _ _ _ _ w (nat_to (hargs sa (by simp)) ha hR) (nat_to (hargs sb (by simp)) hb hR) hm hn h).mono ?_;rintro e w' ⟨v,rfl,hv,hbel⟩;obtain⟨s,rfl,hs,hok⟩:=nat_from hv;exact⟨QW [s,.i .i64 0],rfl,⟨s,rfl,hs⟩,tup2_ok hok trivial,hbel⟩
theorem subC (ha:Nats sa m) (hb:Nats sb n) (hm:(m:Int)<pw 256) (h:n≤m):Contract F Tryz.prog 11 [sa,sb] (natRes (m - n)):=by
  refine Zl Tryz.func11 rfl (by kernel_rfl) fun R w hargs hR=>?_;refine (@Zn.sub_nat (zoneOf R w) _ _ _ _ w (nat_to (hargs sa (by simp)) ha hR) (nat_to (hargs sb (by simp)) hb hR) hm h).mono ?_;rintro e w' ⟨v,rfl,hv,hbel⟩;obtain⟨s,rfl,hs,hok⟩:=nat_from hv;exact⟨QW [s,.i .i64 0],rfl,⟨s,rfl,hs⟩,tup2_ok hok trivial,hbel⟩
theorem gcdC (ha:Nats sa m) (hb:Nats sb n) (hm:(m:Int)<pw 256) (hn:(n:Int)<pw 256):Contract F Tryz.prog 18 [sa,sb] (fun r=>Nats r (Nat.gcd m n)):=by
  refine Zl Tryz.func18 rfl (by kernel_rfl) fun R w hargs hR=>?_;refine (@Zn.gcd_calls (zoneOf R w) _ _ _ _ w (nat_to (hargs sa (by simp)) ha hR) (nat_to (hargs sb (by simp)) hb hR) hm hn).mono ?_;rintro e w' ⟨v,rfl,hv,hbel⟩;obtain⟨s,rfl,hs,hok⟩:=nat_from hv;exact⟨s,rfl,hs,hok,hbel⟩
theorem divModC (ha:Nats sa m) (hb:Nats sb n) (hm:(m:Int)<pw 256) (hn:0<n):Contract F Tryz.prog 15 [sa,sb] (fun r=>∃ s t,r=QW [s,t,.i .i64 0]∧Nats s (m / n)∧Nats t (m % n)):=by
  refine Zl Tryz.func15 rfl (by kernel_rfl) fun R w hargs hR=>?_;refine (@Zn.divmod_nat (zoneOf R w) _ _ _ _ w (nat_to (hargs sa (by simp)) ha hR) (nat_to (hargs sb (by simp)) hb hR) hm hn).mono ?_;rintro e w' ⟨q,r,rfl,hq,hr,hbel⟩;obtain⟨s,rfl,hs,hok⟩:=nat_from hq;obtain⟨t,rfl,ht,hok2⟩:=nat_from hr;exact⟨QW [s,t,.i .i64 0],rfl,⟨s,t,rfl,hs,ht⟩,tup3_ok hok hok2 trivial,hbel⟩
theorem natCmpC (ha:Nats sa m) (hb:Nats sb n):Contract F Tryz.prog 20 [sa,sb] (fun r=>r=.i .i64 (cmpI m n)):=by
  refine Zl Tryz.func20 rfl (by kernel_rfl) fun R w hargs hR=>?_;refine (@Zn.compare_nat (zoneOf R w) _ _ _ _ w (nat_to (hargs sa (by simp)) ha hR) (nat_to (hargs sb (by simp)) hb hR)).mono ?_;rintro e w' ⟨rfl,d,rfl⟩;exact⟨.i .i64 (cmpI m n),rfl,rfl,trivial,@Zn.Below.drewN' w d⟩
end
end Go.Proofs.YtabgkfjfmjdfiaaGreatDoor
