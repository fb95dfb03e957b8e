import Derived.Test.YtfeiiadligkamaaGreatPk5
import Derived.Test.YtfeiiadligkamaaGreatPk3
import Derived.Test.YtfeiiadligkamaaGreatPoE
import Derived.Test.YtfeiiadligkamaaGreatR24F
import Derived.Test.YtfeiiadligkamaaGreatEpiM
import Derived.Test.YtfeiiadligkamaaGreatWalkE
import Derived.Test.YtfeiiadligkamaaGreatOpenE
namespace Go.Proofs.YtfeiiadligkamaaGreat
set_option linter.unusedSimpArgs false
set_option linter.unusedVariables false
set_option linter.defProp false
section
open Go.Sort Eng
theorem res_appX {ys:List Res} {x:Res} {cs:List SV} (h:cs=Res.cs x):rdEq (ys.length+1) 17 (Zb ys.length (Qk ys.toArray) (rdL cs 17)) (Qk (ys ++ [x]).toArray):=by
 subst h;refine Xm (fun i j hi hj=>?_) (fun j hj=>?_)
 ·unfold Qk;simp [getElem!_def,List.getElem?_append,hi]
 ·unfold Qk;simp [getElem!_def]
def adKey (K:List Int) (i:Nat):List Int:=[K.getD i 0]
def adVal (i:Nat):SV:=.tt
theorem hmOwn_take {xs:List Res} {ids:List Idn} {i:Nat} (h:i<ids.length):hmOwn xs (ids.take (i+1))=hmOwn xs (ids.take i) ++ (match findV xs ids[i] with|some r=>if Xu r=true then [r] else []|none=>[]):=by
 unfold hmOwn;rw[List.take_succ_eq_append_getElem h,List.filterMap_append,List.filter_append]
 congr 1
 cases hf:findV xs ids[i] with
 | none=>simp [hf]
 | some r=>
  simp only[List.filterMap_cons,hf,List.filterMap_nil,List.filter_cons,List.filter_nil]
theorem hmOwn_len (xs:List Res) (ids:List Idn):(hmOwn xs ids).length≤ids.length:=by
 unfold hmOwn;exact Nat.le_trans (List.length_filter_le _ _) (List.length_filterMap_le _ _)
def AdOf (K:List Int) (own:List Res):Prop:=∀ k,k∈K ↔ ∃ c∈own,c.from_=k
theorem AdOf.keep {K:List Int} {own:List Res} {r:Res} (h:AdOf K own) (hr:r.from_∈K):AdOf K (own ++ [r]):=fun k=>(h k).trans ⟨fun⟨c,hc,e⟩=>⟨c,List.mem_append.2 (.inl hc),e⟩,fun⟨c,hc,e⟩=>by
 rcases List.mem_append.1 hc with hc|hc
 ·exact⟨c,hc,e⟩
 ·rw[List.mem_singleton] at hc;subst hc;rw[← e]
  exact (h _).1 hr⟩
theorem AdOf.new {K:List Int} {own:List Res} {r:Res} (h:AdOf K own):AdOf (K ++ [r.from_]) (own ++ [r]):=fun k=>by
 rw[List.mem_append,List.mem_singleton,h];constructor
 ·rintro (⟨c,hc,e⟩|e)
  ·exact⟨c,List.mem_append.2 (.inl hc),e⟩
  ·exact⟨r,List.mem_append.2 (.inr (List.mem_singleton.2 rfl)),e.symm⟩
 ·rintro⟨c,hc,e⟩;rcases List.mem_append.1 hc with hc|hc
  ·exact .inl ⟨c,hc,e⟩
  ·rw[List.mem_singleton] at hc;subst hc;exact .inr e.symm
theorem AdOf.has {K:List Int} {own:List Res} (h:AdOf K own) (k:Int):(own.any fun c=>c.from_ == k)=decide (k∈K):=by
 apply Bool.eq_iff_iff.2;rw[List.any_eq_true,decide_eq_true_eq,h];simp only[beq_iff_eq]
def hmG (xs:List Res) (e:Evd) (a:Res):Bool:=((a.from_ == e.a) || (a.from_ == e.b)) && (hmOwn xs e.ids).any fun b=>hmP xs e a b
def ZJ:=And.intro @evr (And.intro @Z6 (And.intro @Qm (And.intro @Qu (And.intro @Zm (And.intro @Zl (And.intro @Zk (And.intro @Qv (And.intro @u32_one (And.intro @Qq (And.intro @Qj (And.intro @tl_get (And.intro @tl_set (@evn)))))))))))))
def qb113:=And.intro @evr (And.intro @Z6 (And.intro @Qm (And.intro @Qu (And.intro @Zm (And.intro @Zl (And.intro @Zk (And.intro @Qv (And.intro @u32_one (And.intro @Qq (And.intro @Qj (And.intro @tl_get (And.intro @tl_set (And.intro @evl (@evn))))))))))))))
def qb114:=And.intro @evr (And.intro @Z6 (And.intro @Qm (And.intro @Qu (And.intro @Zm (And.intro @Zl (And.intro @Zk (And.intro @Qv (And.intro @u32_one (And.intro @List.append_nil.{0} (And.intro @Int.toNat_zero (And.intro @Nat.sub_self (And.intro @Qq (And.intro @Qj (And.intro @tl_get (@tl_set)))))))))))))))
set_option maxHeartbeats 2000000 in
set_option maxRecDepth 100000 in
theorem holdsMateC (F:Frm) (ad:Option Addr) (cap:Nat) (xs:List Res) (e:Evd) (hl:xs.length≤1000000000) (he:e.ids.length≤1000000000) :
  Contract F Tryz.prog 28 [.sl ad xs.length cap 17 (Qk xs.toArray),evAg e] (fun r=>r=.b (hmV xs e)):=by
 refine Qi Tryz.func28 rfl (by kernel_rfl) ?_;simp only[Tryz.ntmps28,Qt,evAg,Evd.cs];(repeat refine Qc ?_);(refine Qa fun k hk=>?_;simp only[id,seval,Qb,ZJ]);intro b3;(refine hk _ ?_;clear hk k;try show Sat _ _ _ _ _);refine Qs [] 3 rfl ?_;(repeat refine Qc ?_);refine Zg (ι:=Bool) (fun q=>⟨104,[(23,.b q),(3,.el ⟨b3,0,none⟩ 4 fun j=>(Evd.cs e).getD j default),(0,.sl ad xs.length cap 17 (Qk xs.toArray))],[]⟩) (fun q=>q=!(Xa e && decide (e.kind=2))) (fun hrest=>?_) ?_
 ·(refine Qa fun k hk=>?_;simp only[id,seval,Qb,ZJ]);refine Qd (validEvC F e he) rfl (by rintro _ rfl;exact Qh rfl) ?_;rintro _ rfl;simp only[id,seval,Qb,ZJ];refine⟨fun h1=>?_,fun h1=>?_⟩
  ·refine hk _ ?_;simp only[Qf];refine (hrest true (by simp at h1;rw[h1];rfl)).le ?_;simp only[id,seval,Qb,qb113];try rfl
  ·refine hk _ ?_;simp only[Qf];refine (hrest (e.kind != 2) (by simp at h1;rw[h1,Bool.true_and];rfl)).le ?_;simp only[id,seval,Qb,qb113];try rfl
 rintro q rfl;simp only[Evd.cs];(repeat refine Qc ?_);refine Qe rfl (fun h=>?_) (fun h=>?_)
 ·(repeat refine Qc ?_);(refine Qa fun k hk=>?_;simp only[id,seval,Qb,ZJ];refine hk _ ?_;clear hk k;try show Sat _ _ _ _ _);refine Sat.ret ?_;simp only[Tryz.results28,id,seval,Int.reduceToNat,Qb,qb114];unfold hmV;simp only[Bool.not_eq_true'] at h;rw[h];rfl
 simp only[Bool.not_eq_false'] at h;refine Sat.skip ?_;simp only[Qf];have hT:mqT Tryz.prog 116=some (true,[.u32],4):=by kernel_rfl
 (repeat refine Qc ?_);(refine Qa fun k hk=>?_;simp only[id,seval,Qb,ZJ];refine hk _ ?_;clear hk k;try show Sat _ _ _ _ _);(repeat refine Qc ?_);(refine Qa fun k hk=>?_;simp only[id,seval,Qb,ZJ]);refine makeMq hT (show 24<104 by decide) fun mb=>?_;simp only[id,seval,Qb,ZJ];(refine hk _ ?_;clear hk k;try show Sat _ _ _ _ _);(repeat refine Qc ?_);(refine Qa fun k hk=>?_;simp only[id,seval,Qb,ZJ];refine hk _ ?_;clear hk k;try show Sat _ _ _ _ _);refine Q1 5 62 17 (Qk #[]) rfl ?_;(repeat refine Qc ?_);refine Sat.block ?_;refine Qo (ι:=Nat×Option Addr×Nat×List Int) (fun z=>⟨104,[(28,.i .i64 z.1),(27,.i .i64 e.ids.length),(26,.sl e.ad e.ids.length e.cap 3 (QX e.ids.toArray)),(3,.el ⟨b3,0,none⟩ 4 fun j=>(Evd.cs e).getD j default),(5,.os 1 z.2.1 (hmOwn xs (e.ids.take z.1)).length z.2.2.1),(6,.mp 0 mb),(0,.sl ad xs.length cap 17 (Qk xs.toArray))],[.mq mb true [.u32] z.2.2.2.length (adKey z.2.2.2) adVal,Qb z.2.1 (hmOwn xs (e.ids.take z.1)).length z.2.2.1 (hmOwn xs (e.ids.take z.1)).toArray]⟩)
  (fun z=>z.1≤e.ids.length∧AdOf z.2.2.2 (hmOwn xs (e.ids.take z.1))∧∀ d∈e.ids.take z.1,(findV xs d).isSome=true) (fun z=>e.ids.length - z.1) (0,none,0,[]) ⟨Nat.zero_le _,fun k=>⟨fun h=>(by cases h),fun⟨c,h,_⟩=>(by cases h)⟩,fun d hd=>by simp at hd⟩ (by
   simp only[Evd.cs,Qb,hmOwn,List.take_zero,List.filterMap_nil,List.filter_nil,List.length_nil];simp only[id,seval,Qb,qb113]
   exact fun i hi=>absurd hi (Nat.not_lt_zero _)) ?_
 rintro⟨i,oa,oc,K⟩ ⟨hi,hK,hq⟩;simp only at hi hK hq ⊢;obtain⟨ow,how⟩:∃ ow,ow=hmOwn xs (e.ids.take i):=⟨_,rfl⟩;have howl:ow.length≤e.ids.length:=by rw[how];exact Nat.le_trans (hmOwn_len _ _) (by rw[List.length_take];omega)
 rw[← how] at hK ⊢;simp only[Evd.cs,Qb];(repeat refine Qc ?_);(refine Qa fun k hk=>?_;simp only[id,seval,Qb,ZJ];refine hk _ ?_;clear hk k;try show Sat _ _ _ _ _);(repeat refine Qc ?_);refine Qe rfl (fun h2=>?_) (fun h2=>?_)
 ·have hlt:i<e.ids.length:=by simp only[decide_eq_true_eq] at h2;omega
  have e1:IntKind.i64.wrap ((i:Int)+1)=((i+1:Nat):Int):=by rw[w64 (by omega)];omega
  obtain⟨d,hd⟩:∃ d,d=e.ids.toArray[i]! := ⟨_,rfl⟩;have hdi:e.ids[i]=d:=by rw[hd];simp [getElem!_def,hlt]
  refine Sat.skip ?_;simp only[Qf];(repeat refine Qc ?_);refine Sat.block ?_;(repeat refine Qc ?_);(refine Qa fun k hk=>?_;simp only[id,seval,Qb,ZJ]);refine⟨by omega,fun b8=>?_⟩;(refine hk _ ?_;clear hk k;try show Sat _ _ _ _ _);refine Qs [.mq mb true [.u32] K.length (adKey K) adVal,.row oa 62 ow.length oc 17 (Qk ow.toArray)] 8 rfl ?_;simp only[List.length_cons,List.length_nil,Nat.reduceAdd];(repeat refine Qc ?_);(refine Qa fun k hk=>?_;simp only[id,seval,Qb,ZJ]);refine Qd (findC F ad cap xs e.ids.toArray[i]! hl) rfl (by rintro _ rfl;exact findS_ok _) ?_;rintro _ rfl;rw[← hd];cases hf:findV xs d with
  | none=>
   simp only[findS,Xh,Q0,Res.cs,id,seval,Int.reduceToNat,Qb,qb114];intro b9;(refine hk _ ?_;clear hk k;try show Sat _ _ _ _ _);(repeat refine Qc ?_);(refine Qa fun k hk=>?_;simp only[id,seval,Qb,ZJ];refine hk _ ?_;clear hk k;try show Sat _ _ _ _ _);(repeat refine Qc ?_);refine Qe rfl (fun h3=>?_) (fun h3=>absurd h3 (by decide));(repeat refine Qc ?_);(refine Qa fun k hk=>?_;simp only[id,seval,Qb,ZJ];refine hk _ ?_;clear hk k;try show Sat _ _ _ _ _);refine Sat.ret ?_;simp only[Qg,Tryz.results28,id,seval,Int.reduceToNat,Qb,qb114]
   have:(e.ids.all fun d=>(findV xs d).isSome)=false:=List.all_eq_false.2 ⟨d,by rw[← hdi];exact List.getElem_mem _,by rw[hf];decide⟩
   unfold hmV;rw[this];simp
  | some r=>
   simp only[findS,Xh,Q0,Res.cs,id,seval,Int.reduceToNat,Qb,qb114];intro b9;(refine hk _ ?_;clear hk k;try show Sat _ _ _ _ _);refine Qs [.mq mb true [.u32] K.length (adKey K) adVal,.row oa 62 ow.length oc 17 (Qk ow.toArray)] 9 rfl ?_;simp only[List.length_cons,List.length_nil,Nat.reduceAdd];(repeat refine Qc ?_);(refine Qa fun k hk=>?_;simp only[id,seval,Qb,ZJ];refine hk _ ?_;clear hk k;try show Sat _ _ _ _ _);(repeat refine Qc ?_);refine Qe rfl (fun h3=>absurd h3 (by decide)) (fun h3=>?_);refine Sat.skip ?_;simp only[Qf]
   have hq2:∀ d∈e.ids.take (i+1),(findV xs d).isSome=true:=fun d' hd'=>by
    rw[List.take_succ_eq_append_getElem hlt] at hd';rcases List.mem_append.1 hd' with hd'|hd'
    ·exact hq d' hd'
    ·rw[List.mem_singleton] at hd';rw[hd',hdi,hf];rfl
   have hstep:=hmOwn_take (xs:=xs) hlt;rw[hdi,hf,← how] at hstep;(repeat refine Qc ?_);(refine Qa fun k hk=>?_;simp only[id,seval,Qb,ZJ]);refine Qd (wayC F r) rfl (by rintro _ rfl;exact Qh rfl) ?_;rintro _ rfl;simp only[id,seval,Qb,ZJ];(refine hk _ ?_;clear hk k;try show Sat _ _ _ _ _);(repeat refine Qc ?_);refine Qe rfl (fun h4=>?_) (fun h4=>?_)
   ·have hstep2:hmOwn xs (e.ids.take (i+1))=ow ++ [r]:=by rw[hstep];simp only;rw[if_pos h4]
    (repeat refine Qc ?_);refine Qa fun kk hk=>?_;simp only[id,seval,Qb,ZJ];refine fun b0=>⟨⟨by unfold maxLen;omega,by omega⟩,fun a2 c2=>hk _ ?_⟩;clear hk kk;simp only[Qf];refine QT (ι:=List Int) (fun K2=>⟨104,[(28,.i .i64 i),(27,.i .i64 e.ids.length),(26,.sl e.ad e.ids.length e.cap 3 (QX e.ids.toArray)),(3,.el ⟨b3,0,none⟩ 4 fun j=>(Evd.cs e).getD j default),(5,.os 1 a2 (ow.length+1) c2),(6,.mp 0 mb),(0,.sl ad xs.length cap 17 (Qk xs.toArray))],[.mq mb true [.u32] K2.length (adKey K2) adVal,.row a2 62 (ow.length+1) c2 17 (Qk (ow ++ [r]).toArray)]⟩) (fun K2=>AdOf K2 (ow ++ [r])) ?_ ?_
    ·refine Qa fun kk hk=>?_;simp only[id,seval,Qb,ZJ];rcases Classical.em (r.from_∈K) with hin|hin
     ·obtain⟨j,hj,hjk⟩:=List.getElem_of_mem hin;have hkj:adKey K j=[r.from_]:=by unfold adKey;rw[List.getD_eq_getElem?_getD,List.getElem?_eq_getElem hj];simp [hjk]
      refine updMq (l:=[r.from_]) (id:=0) hT rfl rfl rfl rfl rfl trivial (fun j2 hj2 hk2=>?_) (fun hno2=>absurd hkj (hno2 j hj));simp only[id,seval,Qb,ZJ];refine hk _ ?_;clear hk kk;simp only[Qf];refine⟨K,hK.keep hin,?_⟩;simp only[Evd.cs];simp only[id,seval,Qb,qb113];exact⟨fun q hq=>⟨rfl,by unfold adVal;simp only[svc];split<;>rfl⟩,res_appX rfl⟩
     ·refine updMq (l:=[r.from_]) (id:=0) hT rfl rfl rfl rfl rfl trivial (fun j2 hj2 hk2=>absurd (by
       unfold adKey at hk2;rw[List.getD_eq_getElem?_getD,List.getElem?_eq_getElem hj2] at hk2;have h9:K[j2]=r.from_:=by simpa using hk2
       rw[← h9];exact List.getElem_mem _) hin) (fun _=>?_)
      simp only[id,seval,Qb,ZJ];refine hk _ ?_;clear hk kk;simp only[Qf];refine⟨K ++ [r.from_],hK.new,?_⟩;simp only[Evd.cs,List.length_append,List.length_singleton];simp only[id,seval,Qb,qb113];refine⟨fun q hq=>?_,res_appX rfl⟩;simp only[];by_cases h9:q=K.length
      ·subst h9;rw[if_pos rfl,if_pos rfl];unfold adKey;rw[List.getD_eq_getElem?_getD,List.getElem?_concat_length];exact⟨rfl,rfl⟩
      ·rw[if_neg h9,if_neg h9];unfold adKey;rw[List.getD_eq_getElem?_getD,List.getD_eq_getElem?_getD,List.getElem?_append_left (by omega)];exact⟨rfl,rfl⟩
    rintro K2 hK2;simp only[Qf,Qg,reduceIte];refine Qa fun kk hk=>?_;simp only[Evd.cs,id,seval,Int.reduceToNat,Qb,e1,qb114];refine hk _ ?_;simp only[Qf,Qg];refine⟨(i+1,a2,c2,K2),⟨hlt,by simp only;rw[hstep2];exact hK2,hq2⟩,by simp only;omega,?_⟩;simp only[hstep2,Evd.cs,Qb,List.length_append,List.length_singleton];simp only[id,seval,Qb,qb113]
   ·have hw:Xu r=false:=by simpa using h4
    have hstep2:hmOwn xs (e.ids.take (i+1))=ow:=by rw[hstep];simp only;rw[if_neg (by rw[hw];decide),List.append_nil]
    refine Sat.skip ?_;simp only[Qf,Qg,reduceIte];refine Qa fun kk hk=>?_;simp only[Evd.cs,id,seval,Int.reduceToNat,Qb,e1,qb114];refine hk _ ?_;simp only[Qf,Qg];refine⟨(i+1,oa,oc,K),⟨hlt,by simp only;rw[hstep2];exact hK,hq2⟩,by simp only;omega,?_⟩;simp only[hstep2,Evd.cs,Qb];simp only[id,seval,Qb,qb113]
 have h1:i=e.ids.length:=by simp only[decide_eq_false_iff_not] at h2;omega
 subst h1;rw[List.take_length] at hq how;refine Sat.exit ?_;simp only[Qf,Qg,reduceIte];refine QQ [.mq mb true [.u32] K.length (adKey K) adVal] 5 rfl ?_;refine Sat.settleMap 6 rfl rfl ?_;simp only[List.set_cons_zero]
 have hmain:hmV xs e=ow.any (hmG xs e):=by
  unfold hmV hmG;rw[h,List.all_eq_true.2 hq,how];rfl
 refine Sat.le (st':=⟨104,[(5,.sl oa ow.length oc 17 (Qk ow.toArray)),(3,.el ⟨b3,0,none⟩ 4 fun j=>(Evd.cs e).getD j default),(6,.rm mb true [.u32] K.length (adKey K) adVal)],[]⟩) ?_ (by simp only[Evd.cs];simp only[id,seval,Qb,qb113]);simp only[Evd.cs];(repeat refine Qc ?_);(refine Qa fun k hk=>?_;simp only[id,seval,Qb,ZJ];refine hk _ ?_;clear hk k;try show Sat _ _ _ _ _);(repeat refine Qc ?_);refine Sat.block ?_;refine Qo (ι:=Nat) (fun i=>⟨104,[(53,.i .i64 i),(52,.i .i64 ow.length),(51,.sl oa ow.length oc 17 (Qk ow.toArray)),(5,.sl oa ow.length oc 17 (Qk ow.toArray)),(3,.el ⟨b3,0,none⟩ 4 fun j=>(Evd.cs e).getD j default),(6,.rm mb true [.u32] K.length (adKey K) adVal)],[]⟩)
  (fun i=>i≤ow.length∧∀ a∈ow.take i,hmG xs e a=false) (fun i=>ow.length - i) 0 ⟨Nat.zero_le _,fun a ha=>by simp at ha⟩ (by simp only[Evd.cs];simp only[id,seval,Qb,qb113];first|done|rfl|trace_state) ?_
 rintro i ⟨hi,hno⟩;simp only[Evd.cs];(repeat refine Qc ?_);(refine Qa fun k hk=>?_;simp only[id,seval,Qb,ZJ];refine hk _ ?_;clear hk k;try show Sat _ _ _ _ _);(repeat refine Qc ?_);refine Qe rfl (fun h2=>?_) (fun h2=>?_)
 ·have hlt:i<ow.length:=by simp only[decide_eq_true_eq] at h2;omega
  have e1:IntKind.i64.wrap ((i:Int)+1)=((i+1:Nat):Int):=by rw[w64 (by omega)];omega
  obtain⟨a,ha⟩:∃ a,a=ow.toArray[i]! := ⟨_,rfl⟩;have hai:ow[i]=a:=by rw[ha,getB hlt]
  have htk:ow.take (i+1)=ow.take i ++ [a]:=by rw[List.take_succ_eq_append_getElem hlt,hai]
  have hnext:hmG xs e a=false→∀ b∈ow.take (i+1),hmG xs e b=false:=fun h9 b hb=>by
   rw[htk] at hb;rcases List.mem_append.1 hb with hb|hb
   ·exact hno b hb
   ·rw[List.mem_singleton] at hb;rw[hb];exact h9
  refine Sat.skip ?_;simp only[Qf];(repeat refine Qc ?_);refine Sat.block ?_;(repeat refine Qc ?_);(refine Qa fun k hk=>?_;simp only[id,seval,Qb,ZJ]);refine⟨by omega,fun b12=>?_⟩;(refine hk _ ?_;clear hk k;try show Sat _ _ _ _ _);refine Qs [] 12 rfl ?_
  refine Sat.le (st':=⟨104,[(12,.el ⟨b12,0,none⟩ 17 fun j=>(Res.cs a).getD j default),(53,.i .i64 i),(52,.i .i64 ow.length),(51,.sl oa ow.length oc 17 (Qk ow.toArray)),(5,.sl oa ow.length oc 17 (Qk ow.toArray)),(3,.el ⟨b3,0,none⟩ 4 fun j=>(Evd.cs e).getD j default),(6,.rm mb true [.u32] K.length (adKey K) adVal)],[]⟩) ?_ (by
   simp only[Evd.cs];simp only[id,seval,Qb,qb113]
   first|done|(rw[ha];rfl)|trace_state)
  simp only[Evd.cs,Res.cs];(repeat refine Qc ?_);refine QT (ι:=Bool) (fun q=>⟨104,[(70,.b q),(12,.el ⟨b12,0,none⟩ 17 fun j=>(Res.cs a).getD j default),(53,.i .i64 i),(52,.i .i64 ow.length),(51,.sl oa ow.length oc 17 (Qk ow.toArray)),(5,.sl oa ow.length oc 17 (Qk ow.toArray)),(3,.el ⟨b3,0,none⟩ 4 fun j=>(Evd.cs e).getD j default),(6,.rm mb true [.u32] K.length (adKey K) adVal)],[]⟩) (fun q=>q=!((a.from_ == e.a) || (a.from_ == e.b))) ?_ ?_
  ·(refine Qa fun k hk=>?_;simp only[id,seval,Qb,ZJ]);refine⟨fun h3=>hk _ ?_,fun h3=>hk _ ?_⟩
   ·simp only[Qf];refine⟨(a.from_ != e.b),by rw[show (a.from_ == e.a)=false by simpa using h3];rfl,?_⟩;simp only[Evd.cs,Res.cs];simp only[id,seval,Qb,qb113]
   ·simp only[Qf];refine⟨false,by rw[show (a.from_ == e.a)=true by simpa using h3];rfl,?_⟩;simp only[Evd.cs,Res.cs];simp only[id,seval,Qb,qb113]
  rintro q rfl;simp only[Qf,Evd.cs,Res.cs];(repeat refine Qc ?_);refine Qe rfl (fun h4=>?_) (fun h4=>?_)
  ·have hg:hmG xs e a=false:=by
    unfold hmG;simp only[Bool.not_eq_true'] at h4;rw[h4];rfl
   refine Sat.exit ?_;simp only[Qf,Qg,reduceIte];refine Qa fun kk hk=>?_;simp only[id,seval,Qb,e1,ZJ];refine hk _ ?_;simp only[Qf,Qg];refine⟨i+1,⟨hlt,hnext hg⟩,by omega,?_⟩;try simp only[Evd.cs]
   simp only[id,seval,Qb,qb113]
  have hg0:hmG xs e a=ow.any fun b=>hmP xs e a b:=by
   unfold hmG;simp only[Bool.not_eq_false'] at h4;rw[h4,← how];rfl
  refine Sat.skip ?_;simp only[Qf];(repeat refine Qc ?_);(refine Qa fun k hk=>?_;simp only[id,seval,Qb,ZJ];refine hk _ ?_;clear hk k;try show Sat _ _ _ _ _)
  refine Sat.le (st':=⟨104,[(13,.i .u32 (othV e a)),(12,.el ⟨b12,0,none⟩ 17 fun j=>(Res.cs a).getD j default),(53,.i .i64 i),(52,.i .i64 ow.length),(51,.sl oa ow.length oc 17 (Qk ow.toArray)),(5,.sl oa ow.length oc 17 (Qk ow.toArray)),(3,.el ⟨b3,0,none⟩ 4 fun j=>(Evd.cs e).getD j default),(6,.rm mb true [.u32] K.length (adKey K) adVal)],[]⟩) ?_ (by
   simp only[Evd.cs,Res.cs];simp only[id,seval,Qb,qb113]
   first|done|rfl|trace_state)
  obtain⟨v,hv⟩:∃ v,v=othV e a:=⟨_,rfl⟩;rw[← hv];simp only[Evd.cs,Res.cs];(repeat refine Qc ?_);(refine Qa fun k hk=>?_;simp only[id,seval,Qb,ZJ];refine hk _ ?_;clear hk k;try show Sat _ _ _ _ _);(repeat refine Qc ?_);refine Sat.block ?_;refine Qo (ι:=Nat) (fun j=>⟨104,[(82,.i .i64 j),(81,.i .i64 ow.length),(80,.sl oa ow.length oc 17 (Qk ow.toArray)),(13,.i .u32 v),(12,.el ⟨b12,0,none⟩ 17 fun j=>(Res.cs a).getD j default),(53,.i .i64 i),(52,.i .i64 ow.length),(51,.sl oa ow.length oc 17 (Qk ow.toArray)),(5,.sl oa ow.length oc 17 (Qk ow.toArray)),(3,.el ⟨b3,0,none⟩ 4 fun j=>(Evd.cs e).getD j default),(6,.rm mb true [.u32] K.length (adKey K) adVal)],[]⟩)
   (fun j=>j≤ow.length∧∀ b∈ow.take j,hmP xs e a b=false) (fun j=>ow.length - j) 0 ⟨Nat.zero_le _,fun a ha=>by simp at ha⟩ (by simp only[Evd.cs,Res.cs];simp only[id,seval,Qb,qb113];first|done|rfl|trace_state) ?_
  rintro j ⟨hj,hno2⟩;simp only[Evd.cs,Res.cs];(repeat refine Qc ?_);(refine Qa fun k hk=>?_;simp only[id,seval,Qb,ZJ];refine hk _ ?_;clear hk k;try show Sat _ _ _ _ _);(repeat refine Qc ?_);refine Qe rfl (fun h5=>?_) (fun h5=>?_)
  ·have hlt2:j<ow.length:=by simp only[decide_eq_true_eq] at h5;omega
   have e2:IntKind.i64.wrap ((j:Int)+1)=((j+1:Nat):Int):=by rw[w64 (by omega)];omega
   obtain⟨b,hb⟩:∃ b,b=ow.toArray[j]! := ⟨_,rfl⟩;have hbj:ow[j]=b:=by rw[hb,getB hlt2]
   have htk2:ow.take (j+1)=ow.take j ++ [b]:=by rw[List.take_succ_eq_append_getElem hlt2,hbj]
   refine Sat.skip ?_;simp only[Qf];(repeat refine Qc ?_);refine Sat.block ?_;(repeat refine Qc ?_);(refine Qa fun k hk=>?_;simp only[id,seval,Qb,ZJ]);refine⟨by omega,fun b15=>?_⟩;(refine hk _ ?_;clear hk k;try show Sat _ _ _ _ _);refine Qs [] 15 rfl ?_
   refine Sat.le (st':=⟨104,[(15,.el ⟨b15,0,none⟩ 17 fun j=>(Res.cs b).getD j default),(82,.i .i64 j),(81,.i .i64 ow.length),(80,.sl oa ow.length oc 17 (Qk ow.toArray)),(13,.i .u32 v),(12,.el ⟨b12,0,none⟩ 17 fun j=>(Res.cs a).getD j default),(53,.i .i64 i),(52,.i .i64 ow.length),(51,.sl oa ow.length oc 17 (Qk ow.toArray)),(5,.sl oa ow.length oc 17 (Qk ow.toArray)),(3,.el ⟨b3,0,none⟩ 4 fun j=>(Evd.cs e).getD j default),(6,.rm mb true [.u32] K.length (adKey K) adVal)],[]⟩) ?_ (by
    simp only[Evd.cs,Res.cs];simp only[id,seval,Qb,qb113]
    first|done|(rw[hb];rfl)|trace_state)
   simp only[Evd.cs,Res.cs]
   have hP:hmP xs e a b=(folR a b && (decide (v∈K) && (msV b.from_).any fun m=>m == v)):=by
    unfold hmP;rw[← hv,← how,hK.has]
   obtain⟨s,hs⟩:∃ s,s=decide (v∈K):=⟨_,rfl⟩;have hml:(msV b.from_).length≤2:=by unfold msV;split<;>simp
   rw[← hs] at hP;(repeat refine Qc ?_);refine Sat.at ⟨104,[(101,.b (hmP xs e a b)),(82,.i .i64 j),(81,.i .i64 ow.length),(80,.sl oa ow.length oc 17 (Qk ow.toArray)),(13,.i .u32 v),(12,.el ⟨b12,0,none⟩ 17 fun j=>(Res.cs a).getD j default),(53,.i .i64 i),(52,.i .i64 ow.length),(51,.sl oa ow.length oc 17 (Qk ow.toArray)),(5,.sl oa ow.length oc 17 (Qk ow.toArray)),(3,.el ⟨b3,0,none⟩ 4 fun j=>(Evd.cs e).getD j default),(6,.rm mb true [.u32] K.length (adKey K) adVal)],[]⟩ ?_ ?_
   ·have hkv:∀ q,q<K.length→adKey K q=[v]→v∈K:=fun q hq h9=>by
     unfold adKey at h9;rw[List.getD_eq_getElem?_getD,List.getElem?_eq_getElem hq] at h9;have h8:K[q]=v:=by simpa using h9
     rw[← h8];exact List.getElem_mem _
    have hvk:v∈K→¬ ∀ q,q<K.length→adKey K q≠[v]:=fun hm h9=>by
     obtain⟨q,hq,h8⟩:=List.getElem_of_mem hm;refine h9 q hq ?_;unfold adKey;rw[List.getD_eq_getElem?_getD,List.getElem?_eq_getElem hq];simp [h8]
    cases s with
    | true=>
     have hin:v∈K:=of_decide_eq_true hs.symm;(refine Qa fun k hk=>?_;simp only[id,seval,Qb,ZJ]);refine Qd (folC F a b) rfl (by rintro _ rfl;exact Qh rfl) ?_;rintro _ rfl;simp only[id,seval,Qb,ZJ];refine⟨fun h6=>?_,fun h6=>?_⟩
     ·refine lookMqU (l:=[v]) hT (mqIn_rm (m:=.tmp 90) rfl) rfl rfl .ff (by kernel_rfl) (fun R w=>trivial) (show 92<104 by decide) .tt (fun q hq h9=>rfl) (fun h9=>absurd h9 (hvk hin)) ?_;simp only[id,seval,Qb,ZJ];refine Q8 (matesC F b.from_) rfl rfl ?_;rintro ra2 ty2 len2 rc2 sz2 rrd2 ⟨ma,mc,e9⟩;simp only[u32Row,Eng.Own.row.injEq] at e9;obtain⟨rfl,rfl,rfl,rfl,rfl,rfl⟩:=e9;simp only[id,seval,Qb,ZJ];refine Qd (containsAdC F ra2 rc2 (msV b.from_) v (by omega)) (by simp only[id,seval,Qb,ZJ]) (by rintro _ rfl;exact Qh rfl) ?_;rintro _ rfl;simp only[id,seval,Qb,ZJ];refine hk _ ?_;have e9:hmP xs e a b=(msV b.from_).any fun m=>m == v:=by rw[hP,h6];rfl
      simp only[Qf,e9,Evd.cs,Res.cs];simp only[id,seval,Qb,qb113]
     ·refine hk _ ?_;have e9:hmP xs e a b=false:=by rw[hP,h6];rfl
      simp only[Qf,e9,Evd.cs,Res.cs];simp only[id,seval,Qb,qb113]
    | false=>
     have hin:v∉K:=of_decide_eq_false hs.symm;(refine Qa fun k hk=>?_;simp only[id,seval,Qb,ZJ]);refine Qd (folC F a b) rfl (by rintro _ rfl;exact Qh rfl) ?_;rintro _ rfl;simp only[id,seval,Qb,ZJ];refine⟨fun h6=>?_,fun h6=>?_⟩
     ·refine lookMqU (l:=[v]) hT (mqIn_rm (m:=.tmp 90) rfl) rfl rfl .ff (by kernel_rfl) (fun R w=>trivial) (show 92<104 by decide) .ff (fun q hq h9=>absurd (hkv q hq h9) hin) (fun _=>rfl) ?_;simp only[id,seval,Qb,ZJ];refine hk _ ?_;have e9:hmP xs e a b=false:=by rw[hP,h6];rfl
      simp only[Qf,e9,Evd.cs,Res.cs];simp only[id,seval,Qb,qb113]
     ·refine hk _ ?_;have e9:hmP xs e a b=false:=by rw[hP,h6];rfl
      simp only[Qf,e9,Evd.cs,Res.cs];simp only[id,seval,Qb,qb113]
   simp only[Qf,Qg,Evd.cs,Res.cs];(repeat refine Qc ?_);refine Qe rfl (fun h6=>?_) (fun h6=>?_)
   ·have hgood:hmG xs e a=true:=by
     rw[hg0,List.any_eq_true];exact⟨b,by rw[← hbj];exact List.getElem_mem _,h6⟩
    (repeat refine Qc ?_);(refine Qa fun k hk=>?_;simp only[id,seval,Qb,ZJ];refine hk _ ?_;clear hk k;try show Sat _ _ _ _ _);refine Sat.ret ?_;simp only[Qf,Qg,Tryz.results28,id,seval,Int.reduceToNat,Qb,qb114];rw[hmain,List.any_eq_true.2 ⟨a,by rw[← hai];exact List.getElem_mem _,hgood⟩]
   ·refine Sat.skip ?_;simp only[Qf,Qg,reduceIte];refine Qa fun kk hk=>?_;simp only[id,seval,Qb,e2,ZJ];refine hk _ ?_;simp only[Qf,Qg];refine⟨j+1,⟨hlt2,fun b' hb'=>?_⟩,by omega,?_⟩
    ·rw[htk2] at hb';rcases List.mem_append.1 hb' with hb'|hb'
     ·exact hno2 b' hb'
     ·rw[List.mem_singleton] at hb';rw[hb'];exact h6
    ·try simp only[Evd.cs,Res.cs]
     simp only[id,seval,Qb,qb113]
  have h6:j=ow.length:=by simp only[decide_eq_false_iff_not] at h5;omega
  subst h6;rw[List.take_length] at hno2
  have hg:hmG xs e a=false:=by
   rw[hg0,List.any_eq_false];exact fun b hb h9=>by rw[hno2 b hb] at h9;cases h9
  refine Sat.exit ?_;simp only[Qf,Qg,reduceIte];refine Qa fun kk hk=>?_;simp only[id,seval,Qb,e1,ZJ];refine hk _ ?_;simp only[Qf,Qg];refine⟨i+1,⟨hlt,hnext hg⟩,by omega,?_⟩;try simp only[Evd.cs]
  simp only[id,seval,Qb,qb113]
 have h6:i=ow.length:=by simp only[decide_eq_false_iff_not] at h2;omega
 subst h6;rw[List.take_length] at hno;refine Sat.exit ?_;simp only[Qf,Qg,reduceIte];(repeat refine Qc ?_);(refine Qa fun k hk=>?_;simp only[id,seval,Qb,ZJ];refine hk _ ?_;clear hk k;try show Sat _ _ _ _ _);refine Sat.ret ?_;simp only[Tryz.results28,id,seval,Int.reduceToNat,Qb,qb114];rw[hmain]
 symm
 congr 1
 rw[List.any_eq_false];exact fun b hb h9=>by rw[hno b hb] at h9;cases h9
end

section
open Go.Sort Eng
theorem resT_frD (d:Array Res) (i:Nat):Qk d i 11=.i .u32 d[i]!.from_:=rfl
theorem x32_othR {a b:Int} (ha:InA a) (hb:InA b):x32 (x32 a b) a=b∧x32 (x32 a b) b=a:=by
 have key:∀ {x:Int},InA x→x=((BitVec.ofInt 32 x).toNat:Int):=fun {x} h=>by
  rw[BitVec.toNat_ofInt];unfold InA at h;omega
 have e1:BitVec.ofInt 32 a ^^^ BitVec.ofInt 32 b ^^^ BitVec.ofInt 32 a=BitVec.ofInt 32 b:=by
  rw[BitVec.xor_comm (BitVec.ofInt 32 a) (BitVec.ofInt 32 b),BitVec.xor_assoc,BitVec.xor_self,BitVec.xor_zero]
 have e2:BitVec.ofInt 32 a ^^^ BitVec.ofInt 32 b ^^^ BitVec.ofInt 32 b=BitVec.ofInt 32 a:=by
  rw[BitVec.xor_assoc,BitVec.xor_self,BitVec.xor_zero]
 refine⟨?_,?_⟩
 ·rw[x32_def,x32_bv,e1,← key hb]
 ·rw[x32_def,x32_bv,e2,← key ha]
theorem chk_iff {a b c:Res}:(chkM a b c 30 || chkM a b c 31)=true ↔ c.from_∈msV b.from_∧c.from_≠a.from_:=by
 have h31:ZB b.from_ 31=(x32 b.from_ 1,0):=rfl;unfold chkM;rw[h31];by_cases h3:a32 b.from_ 3=0∨a32 b.from_ 3=3
 ·have h30:ZB b.from_ 30=(0,10):=by unfold ZB;rw[if_neg (by decide),if_neg (by decide),if_pos h3]
  have hm:msV b.from_=[x32 b.from_ 1]:=by unfold msV;rw[if_pos h3]
  rw[h30,hm];simp only[List.mem_singleton];constructor
  ·intro h;simp at h;exact⟨h.1.symm,fun e=>h.2 (by rw[h.1,e])⟩
  ·rintro⟨h1,h2⟩;simp [← h1,h2]
 ·have h30:ZB b.from_ 30=(x32 b.from_ 3,0):=by unfold ZB;rw[if_neg (by decide),if_neg (by decide),if_neg h3]
  have hm:msV b.from_=[x32 b.from_ 1,x32 b.from_ 3]:=by unfold msV;rw[if_neg h3]
  rw[h30,hm];simp only[List.mem_cons,List.not_mem_nil,or_false];constructor
  ·intro h;simp at h;rcases h with h|h
   ·exact⟨.inr h.1.symm,fun e=>h.2 (by rw[h.1,e])⟩
   ·exact⟨.inl h.1.symm,fun e=>h.2 (by rw[h.1,e])⟩
  ·rintro⟨h1|h1,h2⟩
   ·simp [← h1,h2]
   ·simp [← h1,h2]
theorem mateR_iff {a b c:Res}:mateR a b c=true ↔ folR a b=true∧Xu c=true∧c.from_∈msV b.from_∧c.from_≠a.from_:=by
 unfold mateR;rw[Bool.and_eq_true,Bool.and_eq_true,chk_iff,and_assoc]
def rhP (e:Evd) (a b c:Res):Bool:=mateR a b c && ((min a.from_ c.from_ == e.a) && (max a.from_ c.from_ == e.b))
def rhmV (xs:List Res) (e:Evd):Bool:=(Xa e && decide (e.kind=2)) && ((e.ids.all fun d=>(findV xs d).isSome) && (e.ids.filterMap (findV xs)).any fun a=>(e.ids.filterMap (findV xs)).any fun b=>(e.ids.filterMap (findV xs)).any fun c=>rhP e a b c)
theorem rhm_eq (xs:List Res) (e:Evd) (ha:InA e.a) (hb:InA e.b):rhmV xs e=hmV xs e:=by
 unfold rhmV hmV;cases hv:Xa e with
 | false=>rfl
 | true=>
  cases hk:decide (e.kind=2) with
  | false=>rfl
  | true=>
   cases hf:(e.ids.all fun d=>(findV xs d).isSome) with
   | false=>rfl
   | true=>
    simp only[Bool.true_and]
    have hlt:e.a<e.b:=by
     unfold Xa evPre at hv;rw[Bool.and_eq_true,decide_eq_true_eq] at hv;exact hv.1.2.2.1
    obtain⟨o1,o2⟩:=x32_othR ha hb;apply Bool.eq_iff_iff.2;rw[List.any_eq_true,List.any_eq_true];constructor
    ·rintro⟨a,hma,h⟩;obtain⟨b,hmb,h⟩:=List.any_eq_true.1 h;obtain⟨c,hmc,h⟩:=List.any_eq_true.1 h;unfold rhP at h;rw[Bool.and_eq_true,Bool.and_eq_true,beq_iff_eq,beq_iff_eq,mateR_iff] at h;obtain⟨⟨h1,h2,h3,h4⟩,h5,h6⟩:=h;obtain⟨_,_,_,wa,wb⟩:=togR_iff.1 (folR_iff.1 h1).1
     have hoth:othV e a=c.from_∧(a.from_=e.a∨a.from_=e.b):=by
      unfold othV;rcases Int.le_total a.from_ c.from_ with h7|h7
      ·rw[Int.min_eq_left h7] at h5;rw[Int.max_eq_right h7] at h6;rw[h5,o1,h6];exact⟨rfl,.inl rfl⟩
      ·rw[Int.min_eq_right h7] at h5;rw[Int.max_eq_left h7] at h6;rw[h6,o2,h5];exact⟨rfl,.inr rfl⟩
     refine⟨a,List.mem_filter.2 ⟨hma,wa⟩,?_⟩;rw[Bool.and_eq_true,Bool.or_eq_true,beq_iff_eq,beq_iff_eq];refine⟨hoth.2,List.any_eq_true.2 ⟨b,List.mem_filter.2 ⟨hmb,wb⟩,?_⟩⟩;unfold hmP;rw[hoth.1,h1,Bool.true_and,Bool.and_eq_true];exact⟨List.any_eq_true.2 ⟨c,List.mem_filter.2 ⟨hmc,h2⟩,by simp⟩,List.any_eq_true.2 ⟨_,h3,by simp⟩⟩
    ·rintro⟨a,hma,h⟩;rw[Bool.and_eq_true,Bool.or_eq_true,beq_iff_eq,beq_iff_eq] at h;obtain⟨h0,h⟩:=h;obtain⟨b,hmb,h⟩:=List.any_eq_true.1 h;unfold hmP at h;rw[Bool.and_eq_true,Bool.and_eq_true] at h;obtain⟨h1,h2,h3⟩:=h;obtain⟨c,hmc,h2⟩:=List.any_eq_true.1 h2;obtain⟨m,hm,h3⟩:=List.any_eq_true.1 h3;rw[beq_iff_eq] at h2 h3;have hcm:c.from_∈msV b.from_:=by rw[h2,← h3];exact hm
     refine⟨a,(List.mem_filter.1 hma).1,List.any_eq_true.2 ⟨b,(List.mem_filter.1 hmb).1,List.any_eq_true.2 ⟨c,(List.mem_filter.1 hmc).1,?_⟩⟩⟩
     have hc:(a.from_=e.a∧c.from_=e.b)∨(a.from_=e.b∧c.from_=e.a):=by
      rcases h0 with h0|h0
      ·left;refine⟨h0,?_⟩;rw[h2];unfold othV;rw[h0,o1]
      ·right;refine⟨h0,?_⟩;rw[h2];unfold othV;rw[h0,o2]
     unfold rhP;rw[Bool.and_eq_true,Bool.and_eq_true,beq_iff_eq,beq_iff_eq,mateR_iff];exact⟨⟨h1,(List.mem_filter.1 hmc).2,hcm,by omega⟩,by omega,by omega⟩
theorem rh_take {xs:List Res} {ids:List Idn} {i:Nat} (h:i<ids.length) {r:Res} (hr:findV xs ids[i]=some r):(ids.take (i+1)).filterMap (findV xs)=(ids.take i).filterMap (findV xs) ++ [r]:=by
 rw[List.take_succ_eq_append_getElem h,List.filterMap_append];simp [hr]
def qb115:=And.intro @evr (And.intro @resT_frD (And.intro @Z6 (And.intro @Qm (And.intro @QY (And.intro @Qu (And.intro @Zm (And.intro @Zl (And.intro @Zk (And.intro @Qv (And.intro @Qq (And.intro @Qj (@evn))))))))))))
def qb116:=And.intro @evr (And.intro @resT_frD (And.intro @Z6 (And.intro @Qm (And.intro @QY (And.intro @Qu (And.intro @Zm (And.intro @Zl (And.intro @Zk (And.intro @Qv (And.intro @Qq (And.intro @Qj (And.intro @evl (@evn)))))))))))))
def qb117:=And.intro @evr (And.intro @resT_frD (And.intro @Z6 (And.intro @Qm (And.intro @QY (And.intro @Qu (And.intro @Zm (And.intro @Zl (And.intro @Zk (And.intro @Qv (And.intro @List.append_nil.{0} (And.intro @Int.toNat_zero (And.intro @Nat.sub_self (And.intro @Qq (@Qj))))))))))))))
set_option maxHeartbeats 2000000 in
set_option maxRecDepth 100000 in
theorem rfHoldsMateC (F:Frm) (ad:Option Addr) (cap:Nat) (xs:List Res) (e:Evd) (hl:xs.length≤1000000000) (he:e.ids.length≤1000000000) (hin:∀ r∈xs,RgR r) (hnn:∀ r∈xs,InA r.from_) :
  Contract F Tryz.prog 29 [.sl ad xs.length cap 17 (Qk xs.toArray),evAg e] (fun r=>r=.b (rhmV xs e)):=by
 refine Qi Tryz.func29 rfl (by kernel_rfl) ?_;simp only[Tryz.ntmps29,Qt,evAg,Evd.cs];(repeat refine Qc ?_);(refine Qa fun k hk=>?_;simp only[id,seval,Qb,qb115]);intro b3;(refine hk _ ?_;clear hk k;try show Sat _ _ _ _ _);refine Qs [] 3 rfl ?_;(repeat refine Qc ?_);refine Zg (ι:=Bool) (fun q=>⟨110,[(19,.b q),(3,.el ⟨b3,0,none⟩ 4 fun j=>(Evd.cs e).getD j default),(0,.sl ad xs.length cap 17 (Qk xs.toArray))],[]⟩) (fun q=>q=!(Xa e && decide (e.kind=2))) (fun hrest=>?_) ?_
 ·(refine Qa fun k hk=>?_;simp only[id,seval,Qb,qb115]);refine Qd (refValidEvC F e he) rfl (by rintro _ rfl;exact Qh rfl) ?_;rintro _ rfl;simp only[id,seval,Qb,qb115];refine⟨fun h1=>?_,fun h1=>?_⟩
  ·refine hk _ ?_;simp only[Qf];refine (hrest true (by simp at h1;rw[h1];rfl)).le ?_;simp only[id,seval,Qb,qb116];try rfl
  ·refine hk _ ?_;simp only[Qf];refine (hrest (e.kind != 2) (by simp at h1;rw[h1,Bool.true_and];rfl)).le ?_;simp only[id,seval,Qb,qb116];try rfl
 rintro q rfl;simp only[Evd.cs];(repeat refine Qc ?_);refine Qe rfl (fun h=>?_) (fun h=>?_)
 ·(repeat refine Qc ?_);(refine Qa fun k hk=>?_;simp only[id,seval,Qb,qb115];refine hk _ ?_;clear hk k;try show Sat _ _ _ _ _);refine Sat.ret ?_;simp only[Tryz.results29,id,seval,Int.reduceToNat,Qb,qb117];unfold rhmV;simp only[Bool.not_eq_true'] at h;rw[h];rfl
 simp only[Bool.not_eq_false'] at h;refine Sat.skip ?_;simp only[Qf];(repeat refine Qc ?_);(refine Qa fun k hk=>?_;simp only[id,seval,Qb,qb115];refine hk _ ?_;clear hk k;try show Sat _ _ _ _ _);refine Q1 5 62 17 (Qk #[]) rfl ?_;(repeat refine Qc ?_);(refine Qa fun k hk=>?_;simp only[id,seval,Qb,qb115];refine hk _ ?_;clear hk k;try show Sat _ _ _ _ _);(repeat refine Qc ?_);refine Sat.block ?_;refine Qo (ι:=Nat×Option Addr×Nat) (fun z=>⟨110,[(6,.i .i64 z.1),(3,.el ⟨b3,0,none⟩ 4 fun j=>(Evd.cs e).getD j default),(5,.os 0 z.2.1 ((e.ids.take z.1).filterMap (findV xs)).length z.2.2),(0,.sl ad xs.length cap 17 (Qk xs.toArray))],[Qb z.2.1 ((e.ids.take z.1).filterMap (findV xs)).length z.2.2 ((e.ids.take z.1).filterMap (findV xs)).toArray]⟩)
  (fun z=>z.1≤e.ids.length∧∀ d∈e.ids.take z.1,(findV xs d).isSome=true) (fun z=>e.ids.length - z.1) (0,none,0) ⟨Nat.zero_le _,fun d hd=>by simp at hd⟩ (by
   simp only[Evd.cs,Qb,List.take_zero,List.filterMap_nil,List.length_nil];simp only[id,seval,Qb,qb116]
   first|done|rfl|exact⟨rfl,rfl⟩|trace_state) ?_
 rintro⟨i,oa,oc⟩ ⟨hi,hq⟩;simp only at hi hq ⊢;obtain⟨ow,how⟩:∃ ow,ow=(e.ids.take i).filterMap (findV xs):=⟨_,rfl⟩;have howl:ow.length≤e.ids.length:=by rw[how];exact Nat.le_trans (List.length_filterMap_le _ _) (by rw[List.length_take];omega)
 rw[← how];simp only[Evd.cs,Qb];(repeat refine Qc ?_);(refine Qa fun k hk=>?_;simp only[id,seval,Qb,qb115];refine hk _ ?_;clear hk k;try show Sat _ _ _ _ _);(repeat refine Qc ?_);refine Qe rfl (fun h2=>?_) (fun h2=>?_)
 ·have hlt:i<e.ids.length:=by simp only[decide_eq_true_eq] at h2;omega
  have e1:IntKind.i64.wrap ((i:Int)+1)=((i+1:Nat):Int):=by rw[w64 (by omega)];omega
  obtain⟨d,hd⟩:∃ d,d=e.ids.toArray[i]! := ⟨_,rfl⟩;have hdi:e.ids[i]=d:=by rw[hd];simp [getElem!_def,hlt]
  refine Sat.skip ?_;simp only[Qf];(repeat refine Qc ?_);refine Sat.block ?_;(repeat refine Qc ?_);(refine Qa fun k hk=>?_;simp only[id,seval,Qb,qb115]);refine⟨by omega,?_⟩;refine Qd (findG F ad cap xs e.ids.toArray[i]! hl hin) rfl (by rintro _ rfl;exact findS_ok _) ?_;rintro _ rfl;rw[← hd];cases hf:findV xs d with
  | none=>
   simp only[findS,Xh,Q0,Res.cs,id,seval,Int.reduceToNat,Qb,qb117];intro b9;(refine hk _ ?_;clear hk k;try show Sat _ _ _ _ _);(repeat refine Qc ?_);(refine Qa fun k hk=>?_;simp only[id,seval,Qb,qb115];refine hk _ ?_;clear hk k;try show Sat _ _ _ _ _);(repeat refine Qc ?_);refine Qe rfl (fun h3=>?_) (fun h3=>absurd h3 (by decide));(repeat refine Qc ?_);(refine Qa fun k hk=>?_;simp only[id,seval,Qb,qb115];refine hk _ ?_;clear hk k;try show Sat _ _ _ _ _);refine Sat.ret ?_;simp only[Qg,Tryz.results29,id,seval,Int.reduceToNat,Qb,qb117]
   have:(e.ids.all fun d=>(findV xs d).isSome)=false:=List.all_eq_false.2 ⟨d,by rw[← hdi];exact List.getElem_mem _,by rw[hf];decide⟩
   unfold rhmV;rw[this];simp
  | some r=>
   simp only[findS,Xh,Q0,Res.cs,id,seval,Int.reduceToNat,Qb,qb117];intro b9;(refine hk _ ?_;clear hk k;try show Sat _ _ _ _ _);refine Qs [.row oa 62 ow.length oc 17 (Qk ow.toArray)] 7 rfl ?_;simp only[List.length_cons,List.length_nil,Nat.reduceAdd];(repeat refine Qc ?_);(refine Qa fun k hk=>?_;simp only[id,seval,Qb,qb115];refine hk _ ?_;clear hk k;try show Sat _ _ _ _ _);(repeat refine Qc ?_);refine Qe rfl (fun h3=>absurd h3 (by decide)) (fun h3=>?_);refine Sat.skip ?_;simp only[Qf]
   have hq2:∀ d∈e.ids.take (i+1),(findV xs d).isSome=true:=fun d' hd'=>by
    rw[List.take_succ_eq_append_getElem hlt] at hd';rcases List.mem_append.1 hd' with hd'|hd'
    ·exact hq d' hd'
    ·rw[List.mem_singleton] at hd';rw[hd',hdi,hf];rfl
   have hstep:=rh_take (xs:=xs) hlt (r:=r) (by rw[hdi,hf]);rw[← how] at hstep;(repeat refine Qc ?_);refine Qa fun kk hk=>?_;simp only[id,seval,Qb,qb115];refine fun b0=>⟨⟨by unfold maxLen;omega,by omega⟩,fun a2 c2=>hk _ ?_⟩;clear hk kk;simp only[Qf,Qg,reduceIte];refine Qa fun kk hk=>?_;simp only[id,seval,Qb,e1,qb115];refine hk _ ?_;simp only[Qf,Qg];refine⟨(i+1,a2,c2),⟨hlt,hq2⟩,by simp only;omega,?_⟩;simp only[hstep,Evd.cs,Qb,List.length_append,List.length_singleton];simp only[id,seval,Qb,qb116];exact res_appX rfl
 have h1:i=e.ids.length:=by simp only[decide_eq_false_iff_not] at h2;omega
 subst h1;rw[List.take_length] at hq how
 have hmain:rhmV xs e=ow.any fun a=>ow.any fun b=>ow.any fun c=>rhP e a b c:=by
  unfold rhmV;rw[h,List.all_eq_true.2 hq,how];rfl
 have hnn2:∀ r∈ow,0≤r.from_:=fun r hr=>by
  rw[how] at hr;obtain⟨d,_,hd⟩:=List.mem_filterMap.1 hr;rcases findV_some hd with ⟨h9,_,_⟩|h9
  ·exact (hnn r h9).1
  ·cases h9
 refine Sat.exit ?_;simp only[Qf,Qg,reduceIte];refine QQ [] 5 rfl ?_;refine Sat.le (st':=⟨110,[(5,.sl oa ow.length oc 17 (Qk ow.toArray)),(3,.el ⟨b3,0,none⟩ 4 fun j=>(Evd.cs e).getD j default)],[]⟩) ?_ (by simp only[Evd.cs];simp only[id,seval,Qb,qb116];try rfl);simp only[Evd.cs];(repeat refine Qc ?_);(refine Qa fun k hk=>?_;simp only[id,seval,Qb,qb115];refine hk _ ?_;clear hk k;try show Sat _ _ _ _ _);(repeat refine Qc ?_);refine Sat.block ?_;refine Qo (ι:=Nat) (fun i=>⟨110,[(9,.i .i64 i),(5,.sl oa ow.length oc 17 (Qk ow.toArray)),(3,.el ⟨b3,0,none⟩ 4 fun j=>(Evd.cs e).getD j default)],[]⟩)
  (fun i=>i≤ow.length∧∀ a∈ow.take i,ow.any (fun b=>ow.any fun c=>rhP e a b c)=false) (fun i=>ow.length - i) 0 ⟨Nat.zero_le _,fun a ha=>by simp at ha⟩ (by simp only[Evd.cs];simp only[id,seval,Qb,qb116];first|done|rfl|exact⟨rfl,rfl⟩|trace_state) ?_
 rintro i ⟨hi,hno⟩;simp only[Evd.cs];(repeat refine Qc ?_);(refine Qa fun k hk=>?_;simp only[id,seval,Qb,qb115];refine hk _ ?_;clear hk k;try show Sat _ _ _ _ _);(repeat refine Qc ?_);refine Qe rfl (fun h2=>?_) (fun h2=>?_)
 ·have hlt:i<ow.length:=by simp only[decide_eq_true_eq] at h2;omega
  have e1:IntKind.i64.wrap ((i:Int)+1)=((i+1:Nat):Int):=by rw[w64 (by omega)];omega
  obtain⟨a,ha⟩:∃ a,a=ow.toArray[i]! := ⟨_,rfl⟩;have hai:ow[i]=a:=by rw[ha,getB hlt]
  have htk:ow.take (i+1)=ow.take i ++ [a]:=by rw[List.take_succ_eq_append_getElem hlt,hai]
  refine Sat.skip ?_;simp only[Qf];(repeat refine Qc ?_);refine Sat.block ?_;(repeat refine Qc ?_);(refine Qa fun k hk=>?_;simp only[id,seval,Qb,qb115];refine hk _ ?_;clear hk k;try show Sat _ _ _ _ _);(repeat refine Qc ?_);refine Sat.block ?_;refine Qo (ι:=Nat) (fun j=>⟨110,[(10,.i .i64 j),(9,.i .i64 i),(5,.sl oa ow.length oc 17 (Qk ow.toArray)),(3,.el ⟨b3,0,none⟩ 4 fun j=>(Evd.cs e).getD j default)],[]⟩)
   (fun j=>j≤ow.length∧∀ b∈ow.take j,ow.any (fun c=>rhP e a b c)=false) (fun j=>ow.length - j) 0 ⟨Nat.zero_le _,fun a ha=>by simp at ha⟩ (by simp only[Evd.cs];simp only[id,seval,Qb,qb116];first|done|rfl|exact⟨rfl,rfl⟩|trace_state) ?_
  rintro j ⟨hj,hno2⟩;simp only[Evd.cs];(repeat refine Qc ?_);(refine Qa fun k hk=>?_;simp only[id,seval,Qb,qb115];refine hk _ ?_;clear hk k;try show Sat _ _ _ _ _);(repeat refine Qc ?_);refine Qe rfl (fun h3=>?_) (fun h3=>?_)
  ·have hlt2:j<ow.length:=by simp only[decide_eq_true_eq] at h3;omega
   have e2:IntKind.i64.wrap ((j:Int)+1)=((j+1:Nat):Int):=by rw[w64 (by omega)];omega
   obtain⟨b,hb⟩:∃ b,b=ow.toArray[j]! := ⟨_,rfl⟩;have hbj:ow[j]=b:=by rw[hb,getB hlt2]
   have hbm:b∈ow:=by rw[← hbj];exact List.getElem_mem _
   have htk2:ow.take (j+1)=ow.take j ++ [b]:=by rw[List.take_succ_eq_append_getElem hlt2,hbj]
   refine Sat.skip ?_;simp only[Qf];(repeat refine Qc ?_);refine Sat.block ?_;(repeat refine Qc ?_);(refine Qa fun k hk=>?_;simp only[id,seval,Qb,qb115];refine hk _ ?_;clear hk k;try show Sat _ _ _ _ _);(repeat refine Qc ?_);refine Sat.block ?_;refine Qo (ι:=Nat) (fun l=>⟨110,[(11,.i .i64 l),(10,.i .i64 j),(9,.i .i64 i),(5,.sl oa ow.length oc 17 (Qk ow.toArray)),(3,.el ⟨b3,0,none⟩ 4 fun j=>(Evd.cs e).getD j default)],[]⟩)
    (fun l=>l≤ow.length∧∀ c∈ow.take l,rhP e a b c=false) (fun l=>ow.length - l) 0 ⟨Nat.zero_le _,fun a ha=>by simp at ha⟩ (by simp only[Evd.cs];simp only[id,seval,Qb,qb116];first|done|rfl|exact⟨rfl,rfl⟩|trace_state) ?_
   rintro l ⟨hl2,hno3⟩;simp only[Evd.cs];(repeat refine Qc ?_);(refine Qa fun k hk=>?_;simp only[id,seval,Qb,qb115];refine hk _ ?_;clear hk k;try show Sat _ _ _ _ _);(repeat refine Qc ?_);refine Qe rfl (fun h4=>?_) (fun h4=>?_)
   ·have hlt3:l<ow.length:=by simp only[decide_eq_true_eq] at h4;omega
    have e3:IntKind.i64.wrap ((l:Int)+1)=((l+1:Nat):Int):=by rw[w64 (by omega)];omega
    obtain⟨c,hc⟩:∃ c,c=ow.toArray[l]! := ⟨_,rfl⟩;have hcl:ow[l]=c:=by rw[hc,getB hlt3]
    have htk3:ow.take (l+1)=ow.take l ++ [c]:=by rw[List.take_succ_eq_append_getElem hlt3,hcl]
    have hmc:Contract Frm.nil Tryz.prog 63 [.agg 17 fun j=>Qk ow.toArray i j,.agg 17 fun q=>Qk ow.toArray j q,.agg 17 fun j=>Qk ow.toArray l j] (fun r=>r=.b (mateR a b c)):=by
     have h9:=rfMatesC Frm.nil a b c (hnn2 b hbm);rw[ha,hb,hc] at h9 ⊢;exact h9
    refine Sat.skip ?_;simp only[Qf];(repeat refine Qc ?_);refine Sat.block ?_;(repeat refine Qc ?_);refine Sat.at ⟨110,[(109,.b (rhP e a b c)),(11,.i .i64 l),(10,.i .i64 j),(9,.i .i64 i),(5,.sl oa ow.length oc 17 (Qk ow.toArray)),(3,.el ⟨b3,0,none⟩ 4 fun j=>(Evd.cs e).getD j default)],[]⟩ ?_ ?_
    ·(refine Qr (by kernel_rfl) (by kernel_rfl) fun k hk=>?_;simp only[id,seval,Qb,qb115]);refine⟨by omega,by omega,by omega,?_⟩;refine ZV hmc rfl (Qh rfl) ?_;simp only[id,seval,Qb,qb115];rw[← ha,← hc];refine⟨fun g1=>⟨by omega,by omega,fun g2=>⟨by omega,by omega,?_⟩,fun g2=>?_⟩,fun g1=>?_⟩
     ·refine hk _ ?_;have e9:rhP e a b c=(max a.from_ c.from_ == e.b):=by unfold rhP;rw[g1,g2];rfl
      simp only[Qf,e9,Evd.cs];simp only[id,seval,Qb,qb116]
     ·refine hk _ ?_;have e9:rhP e a b c=false:=by unfold rhP;rw[g2];simp
      simp only[Qf,e9,Evd.cs];simp only[id,seval,Qb,qb116]
     ·refine hk _ ?_;have e9:rhP e a b c=false:=by unfold rhP;rw[g1];rfl
      simp only[Qf,e9,Evd.cs];simp only[id,seval,Qb,qb116]
    simp only[Qf,Evd.cs];(repeat refine Qc ?_);refine Qe rfl (fun h6=>?_) (fun h6=>?_)
    ·(repeat refine Qc ?_);(refine Qa fun k hk=>?_;simp only[id,seval,Qb,qb115];refine hk _ ?_;clear hk k;try show Sat _ _ _ _ _);refine Sat.ret ?_;simp only[Qf,Qg,Tryz.results29,id,seval,Int.reduceToNat,Qb,qb117];rw[hmain,List.any_eq_true.2 ⟨a,by rw[← hai];exact List.getElem_mem _,List.any_eq_true.2 ⟨b,hbm,List.any_eq_true.2 ⟨c,by rw[← hcl];exact List.getElem_mem _,h6⟩⟩⟩]
    ·refine Sat.skip ?_;simp only[Qf,Qg,reduceIte];refine Qa fun kk hk=>?_;simp only[id,seval,Qb,e3,qb115];refine hk _ ?_;simp only[Qf,Qg];refine⟨l+1,⟨hlt3,fun c' hc'=>?_⟩,by omega,?_⟩
     ·rw[htk3] at hc';rcases List.mem_append.1 hc' with hc'|hc'
      ·exact hno3 c' hc'
      ·rw[List.mem_singleton] at hc';rw[hc'];exact h6
     ·try simp only[Evd.cs]
      simp only[id,seval,Qb,qb116]
   have h6:l=ow.length:=by simp only[decide_eq_false_iff_not] at h4;omega
   subst h6;rw[List.take_length] at hno3;refine Sat.exit ?_;simp only[Qf,Qg,reduceIte];refine Qa fun kk hk=>?_;simp only[id,seval,Qb,e2,qb115];refine hk _ ?_;simp only[Qf,Qg];refine⟨j+1,⟨hlt2,fun b' hb'=>?_⟩,by omega,?_⟩
   ·rw[htk2] at hb';rcases List.mem_append.1 hb' with hb'|hb'
    ·exact hno2 b' hb'
    ·rw[List.mem_singleton] at hb';rw[hb',List.any_eq_false];exact fun c hc h9=>by rw[hno3 c hc] at h9;cases h9
   ·try simp only[Evd.cs]
    simp only[id,seval,Qb,qb116]
  have h6:j=ow.length:=by simp only[decide_eq_false_iff_not] at h3;omega
  subst h6;rw[List.take_length] at hno2;refine Sat.exit ?_;simp only[Qf,Qg,reduceIte];refine Qa fun kk hk=>?_;simp only[id,seval,Qb,e1,qb115];refine hk _ ?_;simp only[Qf,Qg];refine⟨i+1,⟨hlt,fun b' hb'=>?_⟩,by omega,?_⟩
  ·rw[htk] at hb';rcases List.mem_append.1 hb' with hb'|hb'
   ·exact hno b' hb'
   ·rw[List.mem_singleton] at hb';rw[hb',List.any_eq_false];exact fun c hc h9=>by rw[hno2 c hc] at h9;cases h9
  ·try simp only[Evd.cs]
   simp only[id,seval,Qb,qb116]
 have h6:i=ow.length:=by simp only[decide_eq_false_iff_not] at h2;omega
 subst h6;rw[List.take_length] at hno;refine Sat.exit ?_;simp only[Qf,Qg,reduceIte];(repeat refine Qc ?_);(refine Qa fun k hk=>?_;simp only[id,seval,Qb,qb115];refine hk _ ?_;clear hk k;try show Sat _ _ _ _ _);refine Sat.ret ?_;simp only[Tryz.results29,id,seval,Int.reduceToNat,Qb,qb117];rw[hmain]
 symm
 congr 1
 rw[List.any_eq_false];exact fun b hb h9=>by rw[hno b hb] at h9;cases h9
end

section
open Go.Sort Eng
theorem evS_1 (es:List Evd) (i:Nat):Xi es i 1=.i .u32 (es.getD i default).a:=rfl
theorem evS_2 (es:List Evd) (i:Nat):Xi es i 2=.i .u32 (es.getD i default).b:=rfl
theorem evR_eq (es:List Evd):Xi es=fun i j=>(Evd.cs es.toArray[i]!).getD j default:=by
 funext i j
 unfold Xi
 congr 2
 by_cases h:i<es.length
 ·simp [getElem!_def,List.getD,h]
 ·simp [getElem!_def,List.getD,h]
def ZP:=And.intro @evr (And.intro @Z6 (And.intro @Qm (And.intro @Qv (And.intro @Qu (And.intro @Zm (And.intro @Zl (And.intro @Zk (And.intro @Qq (And.intro @Qj (And.intro @Xk (@evn)))))))))))
def XG:=And.intro @evr (And.intro @Z6 (And.intro @Qm (And.intro @Qv (And.intro @Qu (And.intro @Zm (And.intro @Zl (And.intro @Zk (And.intro @Qq (And.intro @Qj (And.intro @Xk (And.intro @evl (@evn))))))))))))
def qb121:=And.intro @evr (And.intro @Z6 (And.intro @Qm (And.intro @Qv (And.intro @Qu (And.intro @Zm (And.intro @Zl (And.intro @Zk (And.intro @List.append_nil.{0} (And.intro @Int.toNat_zero (And.intro @Nat.sub_self (And.intro @Qq (And.intro @Qj (@Xk)))))))))))))
def qb120:=And.intro @idn_eqR (And.intro @evr (And.intro @Z6 (And.intro @Qm (And.intro @Qv (And.intro @Qu (And.intro @Zm (And.intro @Zl (And.intro @Zk (And.intro @List.append_nil.{0} (And.intro @Int.toNat_zero (And.intro @Nat.sub_self (And.intro @Qq (And.intro @Qj (@Xk))))))))))))))
set_option maxHeartbeats 1000000 in
set_option maxRecDepth 100000 in
theorem putIdSC (F:Frm) (a:Option Addr) (cap:Nat) (ids:List Idn) (x:Idn) (hl:ids.length≤1000) :
  ContractL F Tryz.prog 64 [.os 0 a ids.length cap,idnAg x] [.row a 27 ids.length cap 3 (QX ids.toArray)]
   (fun r os=>∃ a' c' ids',PutR ids x ids'∧r=.os 0 a' ids'.length c'∧os=[.row a' 27 ids'.length c' 3 (QX ids'.toArray)]):=by
 refine contractL_of Tryz.func64 rfl (by kernel_rfl) ?_;simp only[Tryz.ntmps64,Qt,idnAg,Idn.cs];(repeat refine Qc ?_);(refine Qa fun k hk=>?_;simp only[id,seval,Qb,ZP]);intro b3;(refine hk _ ?_;clear hk k;try show Sat _ _ _ _ _);(repeat refine Qc ?_);(refine Qa fun k hk=>?_;simp only[id,seval,Qb,ZP];refine hk _ ?_;clear hk k;try show Sat _ _ _ _ _);(repeat refine Qc ?_);refine Sat.block ?_;refine Qo (ι:=Nat) (fun i=>⟨51,[(5,.i .i64 i),(0,.os 0 a ids.length cap),(3,.op 1 b3 0)],[.row a 27 ids.length cap 3 (QX ids.toArray),.box b3 27 [.i .i64 x.van,.i .i64 x.run,.i .i64 x.num]]⟩)
  (fun i=>i≤ids.length∧∀ q,q<i→Za (ids.getD q default) x=true) (fun i=>ids.length - i) 0 ⟨Nat.zero_le _,fun q hq=>by omega⟩ (by simp only[id,seval,Qb,XG];try rfl) ?_
 rintro i ⟨hi,hq⟩;(repeat refine Qc ?_);refine Zg (ι:=Bool) (fun q=>⟨51,[(18,.b q),(5,.i .i64 i),(0,.os 0 a ids.length cap),(3,.op 1 b3 0)],[.row a 27 ids.length cap 3 (QX ids.toArray),.box b3 27 [.i .i64 x.van,.i .i64 x.run,.i .i64 x.num]]⟩)
  (fun q=>q=(decide (i<ids.length) && Za (ids.getD i default) x)) (fun hrest=>?_) ?_
 ·(refine Qr (by kernel_rfl) (by kernel_rfl) fun k hk=>?_;simp only[id,seval,Qb,ZP]);refine⟨fun g1=>?_,fun g1=>?_⟩
  ·have hlt:i<ids.length:=by omega
   refine⟨by omega,by omega,?_⟩;refine ZV (ZF Frm.nil ids.toArray[i]! x) rfl (Qh rfl) ?_;rw[idnAt hlt];simp only[id,seval,Qb,ZP];refine hk _ ?_;simp only[Qf];refine (hrest (decide (QP (ids.getD i default) x<0)) (by rw[decide_eq_true hlt];rfl)).le ?_;simp only[id,seval,Qb,XG]
  ·refine hk _ ?_;simp only[Qf];refine (hrest false (by rw[decide_eq_false (by omega)];rfl)).le ?_;simp only[id,seval,Qb,XG]
 rintro q rfl;(repeat refine Qc ?_);refine Qe rfl (fun h=>?_) (fun h=>?_)
 ·rw[Bool.and_eq_true,decide_eq_true_eq] at h;obtain⟨hlt,hx⟩:=h;have e1:IntKind.i64.wrap ((i:Int)+1)=((i+1:Nat):Int):=by rw[w64 (by omega)];omega
  refine Sat.skip ?_;simp only[Qf];(repeat refine Qc ?_);refine Sat.block ?_;refine Qa fun k hk=>?_;simp only[id,seval,Qb,e1,ZP];refine hk _ ?_;simp only[Qf,Qg];refine⟨i+1,⟨by omega,fun q hq2=>?_⟩,by omega,?_⟩
  ·by_cases e:q<i
   ·exact hq q e
   ·obtain rfl:q=i:=by omega
    exact hx
  simp only[id,seval,Qb,XG]
 have hno:i<ids.length→Za (ids.getD i default) x=false:=fun g1=>by
  rw[decide_eq_true g1,Bool.true_and] at h;exact h
 refine Sat.exit ?_;simp only[Qf,Qg,reduceIte];(repeat refine Qc ?_);refine Zg (ι:=Bool) (fun q=>⟨51,[(32,.b q),(5,.i .i64 i),(0,.os 0 a ids.length cap),(3,.op 1 b3 0)],[.row a 27 ids.length cap 3 (QX ids.toArray),.box b3 27 [.i .i64 x.van,.i .i64 x.run,.i .i64 x.num]]⟩)
  (fun q=>q=(decide (i<ids.length) && decide (ids.getD i default=x))) (fun hrest=>?_) ?_
 ·(refine Qr (by kernel_rfl) (by kernel_rfl) fun k hk=>?_;simp only[id,seval,Qb,ZP]);refine⟨fun g1=>?_,fun g1=>?_⟩
  ·have hlt:i<ids.length:=by omega
   simp only[idnAt hlt,id,seval,Int.reduceToNat,Qb,qb120];refine⟨by omega,by omega,?_⟩;refine hk _ ?_;simp only[Qf];refine (hrest (decide (ids.getD i default=x)) (by rw[decide_eq_true hlt];rfl)).le ?_;simp only[id,seval,Qb,XG]
  ·refine hk _ ?_;simp only[Qf];refine (hrest false (by rw[decide_eq_false (by omega)];rfl)).le ?_;simp only[id,seval,Qb,XG]
 rintro q rfl;(repeat refine Qc ?_);refine Qe rfl (fun h2=>?_) (fun h2=>?_)
 ·rw[Bool.and_eq_true,decide_eq_true_eq,decide_eq_true_eq] at h2;(repeat refine Qc ?_);(refine Qa fun k hk=>?_;simp only[id,seval,Qb,ZP];refine hk _ ?_;clear hk k;try show Sat _ _ _ _ _);refine Sat.ret ?_;simp only[Tryz.results64,id,seval,Int.reduceToNat,Qb,retL,retLK,resL,lfA,lf,qb121];exact⟨[_],[_],rfl,by simp,a,cap,ids,⟨i,hi,hq,.inl ⟨h2.1,h2.2,rfl⟩⟩,rfl,rfl⟩
 have hgt:i<ids.length→Za x (ids.getD i default)=true:=fun g1=>by
  rw[decide_eq_true g1,Bool.true_and] at h2;rcases Xz (ids.getD i default) x with g|g|g
  ·rw[hno g1] at g;cases g
  ·exact absurd g (of_decide_eq_false h2)
  ·exact g
 have e6:IntKind.i64.wrap ((i:Int)+1)=((i+1:Nat):Int):=by rw[w64 (by omega)];omega
 refine Sat.skip ?_;simp only[Qf];(repeat refine Qc ?_);(refine Qa fun k hk=>?_;simp only[id,seval,Qb,ZP]);intro b6;refine⟨⟨by unfold maxLen;omega,by omega⟩,fun a2 cap2=>?_⟩;(refine hk _ ?_;clear hk k;try show Sat _ _ _ _ _);refine ZE 0 rfl fun hcap=>?_;(repeat refine Qc ?_)
 refine Sat.at ⟨51,[(5,.i .i64 i),(0,.os 0 a2 (ids.length+1) cap2),(3,.op 1 b3 0)],
  [.row a2 27 (ids.length+1) cap2 3 (Xj (i+1) i (ids.length - i) (Zb ids.length (QX ids.toArray) (rdL (Idn.cs x) 3))),.box b3 27 [.i .i64 x.van,.i .i64 x.run,.i .i64 x.num]]⟩ ?_ ?_
 ·(refine Qp (.keep [0,1,2,4,5] [] (.alt 3 (.one 6 (.one 7 .done)) (.alt 6 (.one 3 (.one 7 .done)) .none))) (by kernel_rfl) (by kernel_rfl) (fun _ _ h=>h) fun k hk=>?_;simp only[WOT,List.map_cons,List.map_nil,List.getD_cons_zero,List.getD_cons_succ];simp only[id,seval,Qb,WOT,ZP]);simp only[id,seval,Qb,e6,ZP]
  repeat' (with_reducible refine And.intro ?_ ?_)
  all_goals first|omega|skip
  all_goals
   refine hk _ ?_;simp only[Qf,show min (ids.length+1 - i) (ids.length+1 - (i+1))=ids.length - i by omega,show min (ids.length+1 - i) (ids.length - i)=ids.length - i by omega,Idn.cs];simp only[id,seval,Qb,XG];try exact fun _ _ _ _=>rfl
 simp only[Qf];(repeat refine Qc ?_);(refine Qa fun k hk=>?_;simp only[id,seval,Qb,ZP]);refine⟨by omega,by omega,?_⟩;(refine hk _ ?_;clear hk k;try show Sat _ _ _ _ _);have hil:=insL_len (ys:=ids) (r:=x) hi;refine Sat.le (st':=⟨51,[(0,.os 0 a2 (insL ids i x).length cap2)],[.row a2 27 (insL ids i x).length cap2 3 (QX (insL ids i x).toArray)]⟩) ?_ ?_
 ·(repeat refine Qc ?_);(refine Qa fun k hk=>?_;simp only[id,seval,Qb,ZP];refine hk _ ?_;clear hk k;try show Sat _ _ _ _ _);refine Sat.ret ?_;simp only[Tryz.results64,id,seval,Int.reduceToNat,Qb,retL,retLK,resL,lfA,lf,qb121];exact⟨[_],[],rfl,by simp,a2,cap2,insL ids i x,⟨i,hi,hq,.inr ⟨hgt,rfl⟩⟩,rfl,rfl⟩
 ·simp only[hil];simp only[id,seval,Qb,XG];exact ins_rd Idn.cs 3 (fun _=>rfl) hi rfl
def qb122:=And.intro @evS_1 (And.intro @evS_2 (And.intro @evr (And.intro @Z6 (And.intro @Qm (And.intro @Qv (And.intro @Qu (And.intro @Zm (And.intro @Zl (And.intro @Zk (And.intro @List.append_nil.{0} (And.intro @Int.toNat_zero (And.intro @Nat.sub_self (And.intro @Qq (And.intro @Qj (@Xk)))))))))))))))
set_option maxRecDepth 100000 in
theorem atSC (F:Frm) (a:Option Addr) (cap:Nat) (es:List Evd) (p:Par) (hl:es.length≤1000000) :
  Contract F Tryz.prog 65 [.sl a es.length cap 4 (Xi es),.i .u32 p.a,.i .u32 p.b]
   (fun r=>(r=.i .i64 (-1)∧∀ q,q<es.length→(es.getD q default).pr≠p)∨∃ i:Nat,i<es.length∧(es.getD i default).pr=p∧r=.i .i64 i):=by
 refine Qi Tryz.func65 rfl (by kernel_rfl) ?_;simp only[Tryz.ntmps65,Qt];(repeat refine Qc ?_);(refine Qa fun k hk=>?_;simp only[id,seval,Qb,ZP];refine hk _ ?_;clear hk k;try show Sat _ _ _ _ _);(repeat refine Qc ?_);(refine Qa fun k hk=>?_;simp only[id,seval,Qb,ZP];refine hk _ ?_;clear hk k;try show Sat _ _ _ _ _);(repeat refine Qc ?_);refine Sat.block ?_;refine Qo (ι:=Nat) (fun i=>⟨31,[(7,.i .i64 i),(0,.sl a es.length cap 4 (Xi es)),(1,.i .u32 p.a),(2,.i .u32 p.b)],[]⟩)
  (fun i=>i≤es.length∧∀ q,q<i→(es.getD q default).pr≠p) (fun i=>es.length - i) 0 ⟨Nat.zero_le _,fun q hq=>by omega⟩ (by simp only[id,seval,Qb,XG];try rfl) ?_
 rintro i ⟨hi,hq⟩;(repeat refine Qc ?_);(refine Qa fun k hk=>?_;simp only[id,seval,Qb,ZP];refine hk _ ?_;clear hk k;try show Sat _ _ _ _ _);(repeat refine Qc ?_);refine Qe rfl (fun h=>?_) (fun h=>?_)
 ·have h1:i<es.length:=by simp only[decide_eq_true_eq] at h;omega
  have e1:IntKind.i64.wrap ((i:Int)+1)=((i+1:Nat):Int):=by rw[w64 (by omega)];omega
  refine Sat.skip ?_;simp only[Qf];(repeat refine Qc ?_);refine Sat.block ?_;(repeat refine Qc ?_);refine Zg (ι:=Bool) (fun q=>⟨31,[(29,.b q),(7,.i .i64 i),(0,.sl a es.length cap 4 (Xi es)),(1,.i .u32 p.a),(2,.i .u32 p.b)],[]⟩)
   (fun q=>q=decide ((es.getD i default).pr=p)) (fun hrest=>?_) ?_
  ·(refine Qa fun k hk=>?_;simp only[id,seval,Qb,ZP]);simp only[id,seval,Int.reduceToNat,Qb,qb122];refine⟨by omega,fun g1=>⟨by omega,?_⟩,fun g1=>?_⟩
   ·have g2:(es.getD i default).a=p.a:=by simpa using g1
    refine hk _ ?_;simp only[Qf]
    refine (hrest ((es.getD i default).b == p.b) (by
     by_cases h9:(es.getD i default).b=p.b
     ·rw[decide_eq_true (show (es.getD i default).pr=p by cases p;unfold Evd.pr;simp only at g2 h9;rw[g2,h9]),h9];simp
     ·rw[decide_eq_false (fun h8=>h9 (by rw[← h8];rfl))];exact beq_eq_false_iff_ne.2 h9)).le ?_
    simp only[id,seval,Qb,XG]
   ·have g2:(es.getD i default).a≠p.a:=by simpa using g1
    refine hk _ ?_;simp only[Qf];refine (hrest false (by rw[decide_eq_false (fun h8=>g2 (by rw[← h8];rfl))])).le ?_;simp only[id,seval,Qb,XG]
  rintro q rfl;(repeat refine Qc ?_);refine Qe rfl (fun h2=>?_) (fun h2=>?_)
  ·(repeat refine Qc ?_);(refine Qa fun k hk=>?_;simp only[id,seval,Qb,ZP];refine hk _ ?_;clear hk k;try show Sat _ _ _ _ _);refine Sat.ret ?_;simp only[Qg,Tryz.results65,id,seval,Int.reduceToNat,Qb,qb121];exact .inr ⟨i,h1,of_decide_eq_true h2,rfl⟩
  refine Sat.skip ?_;simp only[Qf,Qg,reduceIte];refine Qa fun k hk=>?_;simp only[id,seval,Qb,e1,ZP];refine hk _ ?_;simp only[Qf,Qg];refine⟨i+1,⟨by omega,fun q hq2=>?_⟩,by omega,?_⟩
  ·by_cases e:q<i
   ·exact hq q e
   ·obtain rfl:q=i:=by omega
    exact of_decide_eq_false h2
  simp only[id,seval,Qb,XG]
 have h1:i=es.length:=by simp only[decide_eq_false_iff_not] at h;omega
 subst h1;refine Sat.exit ?_;simp only[Qf,Qg,reduceIte];(repeat refine Qc ?_);(refine Qa fun k hk=>?_;simp only[id,seval,Qb,ZP];refine hk _ ?_;clear hk k;try show Sat _ _ _ _ _);refine Sat.ret ?_;simp only[Tryz.results65,id,seval,Int.reduceToNat,Qb,qb121];first|exact .inl ⟨rfl,hq⟩|exact .inl hq
set_option maxHeartbeats 1000000 in
set_option maxRecDepth 100000 in
theorem putEvSC (F:Frm) (a:Option Addr) (cap:Nat) (es:List Evd) (e:Evd) (hl:es.length≤1000000) :
  ContractL F Tryz.prog 66 [.os 0 a es.length cap,evAg e] [.row a 32 es.length cap 4 (Xi es)]
   (fun r os=>∃ a' c' k,k≤es.length∧(∀ q,q<k→ZK (es.getD q default).pr e.pr=true)∧(k<es.length→ZK (es.getD k default).pr e.pr=false) ∧
    r=.os 0 a' (insL es k e).length c'∧os=[.row a' 32 (insL es k e).length c' 4 (Xi (insL es k e))]):=by
 refine contractL_of Tryz.func66 rfl (by kernel_rfl) ?_;simp only[Tryz.ntmps66,Qt,evAg,Evd.cs];(repeat refine Qc ?_);(refine Qa fun k hk=>?_;simp only[id,seval,Qb,ZP]);intro b3;(refine hk _ ?_;clear hk k;try show Sat _ _ _ _ _);(repeat refine Qc ?_);(refine Qa fun k hk=>?_;simp only[id,seval,Qb,ZP];refine hk _ ?_;clear hk k;try show Sat _ _ _ _ _);(repeat refine Qc ?_);refine Sat.block ?_;refine Qo (ι:=Nat) (fun i=>⟨59,[(5,.i .i64 i),(0,.os 0 a es.length cap),(3,.op 1 b3 0)],[.row a 32 es.length cap 4 (Xi es),.box b3 32 (Evd.cs e)]⟩)
  (fun i=>i≤es.length∧∀ q,q<i→ZK (es.getD q default).pr e.pr=true) (fun i=>es.length - i) 0 ⟨Nat.zero_le _,fun q hq=>by omega⟩ (by simp only[Evd.cs];simp only[id,seval,Qb,XG];try rfl) ?_
 rintro i ⟨hi,hq⟩;simp only[Evd.cs];(repeat refine Qc ?_);refine Zg (ι:=Bool) (fun q=>⟨59,[(39,.b q),(5,.i .i64 i),(0,.os 0 a es.length cap),(3,.op 1 b3 0)],[.row a 32 es.length cap 4 (Xi es),.box b3 32 (Evd.cs e)]⟩)
  (fun q=>q=(decide (i<es.length) && ZK (es.getD i default).pr e.pr)) (fun hrest=>?_) ?_
 ·(refine Qr (by kernel_rfl) (by kernel_rfl) fun k hk=>?_;simp only[id,seval,Qb,ZP]);simp only[id,seval,Int.reduceToNat,Qb,qb122];refine⟨fun g1=>?_,fun g1=>?_⟩
  ·have hlt:i<es.length:=by omega
   refine⟨by omega,by omega,fun g2=>?_,fun g2=>⟨by omega,by omega,fun g3=>⟨by omega,by omega,?_⟩,fun g3=>?_⟩⟩
   ·refine hk _ ?_;simp only[Qf];refine (hrest true (by rw[decide_eq_true hlt,Bool.true_and];exact (parLt_iff.2 (.inl g2)).symm)).le ?_;simp only[Evd.cs];simp only[id,seval,Qb,XG]
   ·have g4:(es.getD i default).a=e.a:=by simpa using g3
    refine hk _ ?_;simp only[Qf]
    refine (hrest (decide ((es.getD i default).b<e.b)) (by
     rw[decide_eq_true hlt,Bool.true_and];apply Bool.eq_iff_iff.2;rw[parLt_iff,decide_eq_true_eq];show _ ↔ (es.getD i default).a<e.a∨((es.getD i default).a=e.a∧(es.getD i default).b<e.b)
     omega)).le ?_
    simp only[Evd.cs];simp only[id,seval,Qb,XG]
   ·have g4:(es.getD i default).a≠e.a:=by simpa using g3
    refine hk _ ?_;simp only[Qf]
    refine (hrest false (by
     rw[decide_eq_true hlt,Bool.true_and]
     symm
     rw[Bool.eq_false_iff,ne_eq,parLt_iff];show ¬ ((es.getD i default).a<e.a∨((es.getD i default).a=e.a∧(es.getD i default).b<e.b))
     omega)).le ?_
    simp only[Evd.cs];simp only[id,seval,Qb,XG]
  ·refine hk _ ?_;simp only[Qf];refine (hrest false (by rw[decide_eq_false (by omega)];rfl)).le ?_;simp only[Evd.cs];simp only[id,seval,Qb,XG]
 rintro q rfl;simp only[Evd.cs];(repeat refine Qc ?_);refine Qe rfl (fun h=>?_) (fun h=>?_)
 ·rw[Bool.and_eq_true,decide_eq_true_eq] at h;obtain⟨hlt,hx⟩:=h;have e1:IntKind.i64.wrap ((i:Int)+1)=((i+1:Nat):Int):=by rw[w64 (by omega)];omega
  refine Sat.skip ?_;simp only[Qf];(repeat refine Qc ?_);refine Sat.block ?_;refine Qa fun k hk=>?_;simp only[id,seval,Qb,e1,ZP];refine hk _ ?_;simp only[Qf,Qg];refine⟨i+1,⟨by omega,fun q hq2=>?_⟩,by omega,?_⟩
  ·by_cases e:q<i
   ·exact hq q e
   ·obtain rfl:q=i:=by omega
    exact hx
  simp only[id,seval,Qb,XG]
 have hno:i<es.length→ZK (es.getD i default).pr e.pr=false:=fun g1=>by
  rw[decide_eq_true g1,Bool.true_and] at h;exact h
 have e6:IntKind.i64.wrap ((i:Int)+1)=((i+1:Nat):Int):=by rw[w64 (by omega)];omega
 refine Sat.exit ?_;simp only[Qf,Qg,reduceIte];(repeat refine Qc ?_);(refine Qa fun k hk=>?_;simp only[id,seval,Qb,ZP]);intro b6;refine⟨⟨by unfold maxLen;omega,by omega⟩,fun a2 cap2=>?_⟩;(refine hk _ ?_;clear hk k;try show Sat _ _ _ _ _);refine ZE 0 rfl fun hcap=>?_;(repeat refine Qc ?_)
 refine Sat.at ⟨59,[(5,.i .i64 i),(0,.os 0 a2 (es.length+1) cap2),(3,.op 1 b3 0)],
  [.row a2 32 (es.length+1) cap2 4 (Xj (i+1) i (es.length - i) (Zb es.length (Xi es) (rdL (Evd.cs e) 4))),.box b3 32 (Evd.cs e)]⟩ ?_ ?_
 ·(refine Qp (.keep [0,1,2,4,5] [] (.alt 3 (.one 6 (.one 7 .done)) (.alt 6 (.one 3 (.one 7 .done)) .none))) (by kernel_rfl) (by kernel_rfl) (fun _ _ h=>h) fun k hk=>?_;simp only[WOT,List.map_cons,List.map_nil,List.getD_cons_zero,List.getD_cons_succ];simp only[id,seval,Qb,WOT,ZP]);simp only[id,seval,Qb,e6,ZP]
  repeat' (with_reducible refine And.intro ?_ ?_)
  all_goals first|omega|skip
  all_goals
   refine hk _ ?_;simp only[Qf,show min (es.length+1 - i) (es.length+1 - (i+1))=es.length - i by omega,show min (es.length+1 - i) (es.length - i)=es.length - i by omega,Evd.cs];simp only[id,seval,Qb,XG];try exact fun _ _ _ _=>rfl
 simp only[Qf,Evd.cs];(repeat refine Qc ?_);(refine Qa fun k hk=>?_;simp only[id,seval,Qb,ZP]);refine⟨by omega,by omega,?_⟩;(refine hk _ ?_;clear hk k;try show Sat _ _ _ _ _);have hil:=insL_len (ys:=es) (r:=e) hi;refine Sat.le (st':=⟨59,[(0,.os 0 a2 (insL es i e).length cap2)],[.row a2 32 (insL es i e).length cap2 4 (Xi (insL es i e))]⟩) ?_ ?_
 ·(repeat refine Qc ?_);(refine Qa fun k hk=>?_;simp only[id,seval,Qb,ZP];refine hk _ ?_;clear hk k;try show Sat _ _ _ _ _);refine Sat.ret ?_;simp only[Tryz.results66,id,seval,Int.reduceToNat,Qb,retL,retLK,resL,lfA,lf,qb121];exact⟨[_],[],rfl,by simp,a2,cap2,i,hi,hq,hno,rfl,rfl⟩
 ·simp only[hil];simp only[id,seval,Qb,XG];rw[evR_eq es,evR_eq (insL es i e)];exact ins_rd Evd.cs 4 (fun _=>rfl) hi rfl
set_option maxHeartbeats 1000000 in
set_option maxRecDepth 100000 in
theorem putId0C (F:Frm) (x:Idn) (rd0:Nat→Nat→SV) :
  ContractN F Tryz.prog 64 [.sl none 0 0 0 rd0,idnAg x] (fun o=>∃ a c,o=.row a 27 1 c 3 (QX [x].toArray)):=by
 obtain⟨ids,hids⟩:∃ ids:List Idn,ids=[]:=⟨_,rfl⟩;have hl:ids.length≤1000:=by rw[hids];decide
 have hz:ids.length=0:=by rw[hids];rfl
 refine Zh Tryz.func64 rfl (by kernel_rfl) ?_;simp only[Tryz.ntmps64,Qt,idnAg,Idn.cs];refine Q1 0 27 3 (QX #[]) rfl ?_;obtain⟨a,ha⟩:∃ a:Option Addr,a=none:=⟨_,rfl⟩;obtain⟨cap,hcap0⟩:∃ cap:Nat,cap=0:=⟨_,rfl⟩;refine Sat.le (st':=⟨51,[(0,.os 0 a ids.length cap),(1,.agg 3 fun j=>[SV.i .i64 x.van,.i .i64 x.run,.i .i64 x.num].getD j default)],[.row a 27 ids.length cap 3 (QX ids.toArray)]⟩) ?_ (by rw[hids,ha,hcap0];simp only[id,seval,Qb,XG];try exact⟨rfl,rfl⟩);clear ha hcap0;(repeat refine Qc ?_);(refine Qa fun k hk=>?_;simp only[id,seval,Qb,ZP]);intro b3;(refine hk _ ?_;clear hk k;try show Sat _ _ _ _ _);(repeat refine Qc ?_);(refine Qa fun k hk=>?_;simp only[id,seval,Qb,ZP];refine hk _ ?_;clear hk k;try show Sat _ _ _ _ _);(repeat refine Qc ?_);refine Sat.block ?_;refine Qo (ι:=Nat) (fun i=>⟨51,[(5,.i .i64 i),(0,.os 0 a ids.length cap),(3,.op 1 b3 0)],[.row a 27 ids.length cap 3 (QX ids.toArray),.box b3 27 [.i .i64 x.van,.i .i64 x.run,.i .i64 x.num]]⟩)
  (fun i=>i≤ids.length∧∀ q,q<i→Za (ids.getD q default) x=true) (fun i=>ids.length - i) 0 ⟨Nat.zero_le _,fun q hq=>by omega⟩ (by simp only[id,seval,Qb,XG];try rfl) ?_
 rintro i ⟨hi,hq⟩;(repeat refine Qc ?_);refine Zg (ι:=Bool) (fun q=>⟨51,[(18,.b q),(5,.i .i64 i),(0,.os 0 a ids.length cap),(3,.op 1 b3 0)],[.row a 27 ids.length cap 3 (QX ids.toArray),.box b3 27 [.i .i64 x.van,.i .i64 x.run,.i .i64 x.num]]⟩)
  (fun q=>q=(decide (i<ids.length) && Za (ids.getD i default) x)) (fun hrest=>?_) ?_
 ·(refine Qr (by kernel_rfl) (by kernel_rfl) fun k hk=>?_;simp only[id,seval,Qb,ZP]);refine⟨fun g1=>?_,fun g1=>?_⟩
  ·have hlt:i<ids.length:=by omega
   refine⟨by omega,by omega,?_⟩;refine ZV (ZF Frm.nil ids.toArray[i]! x) rfl (Qh rfl) ?_;rw[idnAt hlt];simp only[id,seval,Qb,ZP];refine hk _ ?_;simp only[Qf];refine (hrest (decide (QP (ids.getD i default) x<0)) (by rw[decide_eq_true hlt];rfl)).le ?_;simp only[id,seval,Qb,XG]
  ·refine hk _ ?_;simp only[Qf];refine (hrest false (by rw[decide_eq_false (by omega)];rfl)).le ?_;simp only[id,seval,Qb,XG]
 rintro q rfl;(repeat refine Qc ?_);refine Qe rfl (fun h=>?_) (fun h=>?_)
 ·rw[Bool.and_eq_true,decide_eq_true_eq] at h;obtain⟨hlt,hx⟩:=h;have e1:IntKind.i64.wrap ((i:Int)+1)=((i+1:Nat):Int):=by rw[w64 (by omega)];omega
  refine Sat.skip ?_;simp only[Qf];(repeat refine Qc ?_);refine Sat.block ?_;refine Qa fun k hk=>?_;simp only[id,seval,Qb,e1,ZP];refine hk _ ?_;simp only[Qf,Qg];refine⟨i+1,⟨by omega,fun q hq2=>?_⟩,by omega,?_⟩
  ·by_cases e:q<i
   ·exact hq q e
   ·obtain rfl:q=i:=by omega
    exact hx
  simp only[id,seval,Qb,XG]
 have hno:i<ids.length→Za (ids.getD i default) x=false:=fun g1=>by
  rw[decide_eq_true g1,Bool.true_and] at h;exact h
 refine Sat.exit ?_;simp only[Qf,Qg,reduceIte];(repeat refine Qc ?_);refine Zg (ι:=Bool) (fun q=>⟨51,[(32,.b q),(5,.i .i64 i),(0,.os 0 a ids.length cap),(3,.op 1 b3 0)],[.row a 27 ids.length cap 3 (QX ids.toArray),.box b3 27 [.i .i64 x.van,.i .i64 x.run,.i .i64 x.num]]⟩)
  (fun q=>q=(decide (i<ids.length) && decide (ids.getD i default=x))) (fun hrest=>?_) ?_
 ·(refine Qr (by kernel_rfl) (by kernel_rfl) fun k hk=>?_;simp only[id,seval,Qb,ZP]);refine⟨fun g1=>?_,fun g1=>?_⟩
  ·have hlt:i<ids.length:=by omega
   simp only[idnAt hlt,id,seval,Int.reduceToNat,Qb,qb120];refine⟨by omega,by omega,?_⟩;refine hk _ ?_;simp only[Qf];refine (hrest (decide (ids.getD i default=x)) (by rw[decide_eq_true hlt];rfl)).le ?_;simp only[id,seval,Qb,XG]
  ·refine hk _ ?_;simp only[Qf];refine (hrest false (by rw[decide_eq_false (by omega)];rfl)).le ?_;simp only[id,seval,Qb,XG]
 rintro q rfl;(repeat refine Qc ?_);refine Qe rfl (fun h2=>?_) (fun h2=>?_)
 ·rw[Bool.and_eq_true,decide_eq_true_eq,decide_eq_true_eq] at h2;(repeat refine Qc ?_);(refine Qa fun k hk=>?_;simp only[id,seval,Qb,ZP];refine hk _ ?_;clear hk k;try show Sat _ _ _ _ _);refine Sat.ret ?_;simp only[Tryz.results64,id,seval,Int.reduceToNat,Qb,retN,retNK,newRow,qb121];omega
 have hgt:i<ids.length→Za x (ids.getD i default)=true:=fun g1=>by
  rw[decide_eq_true g1,Bool.true_and] at h2;rcases Xz (ids.getD i default) x with g|g|g
  ·rw[hno g1] at g;cases g
  ·exact absurd g (of_decide_eq_false h2)
  ·exact g
 have e6:IntKind.i64.wrap ((i:Int)+1)=((i+1:Nat):Int):=by rw[w64 (by omega)];omega
 refine Sat.skip ?_;simp only[Qf];(repeat refine Qc ?_);(refine Qa fun k hk=>?_;simp only[id,seval,Qb,ZP]);intro b6;refine⟨⟨by unfold maxLen;omega,by omega⟩,fun a2 cap2=>?_⟩;(refine hk _ ?_;clear hk k;try show Sat _ _ _ _ _);refine ZE 0 rfl fun hcap=>?_;(repeat refine Qc ?_)
 refine Sat.at ⟨51,[(5,.i .i64 i),(0,.os 0 a2 (ids.length+1) cap2),(3,.op 1 b3 0)],
  [.row a2 27 (ids.length+1) cap2 3 (Xj (i+1) i (ids.length - i) (Zb ids.length (QX ids.toArray) (rdL (Idn.cs x) 3))),.box b3 27 [.i .i64 x.van,.i .i64 x.run,.i .i64 x.num]]⟩ ?_ ?_
 ·(refine Qp (.keep [0,1,2,4,5] [] (.alt 3 (.one 6 (.one 7 .done)) (.alt 6 (.one 3 (.one 7 .done)) .none))) (by kernel_rfl) (by kernel_rfl) (fun _ _ h=>h) fun k hk=>?_;simp only[WOT,List.map_cons,List.map_nil,List.getD_cons_zero,List.getD_cons_succ];simp only[id,seval,Qb,WOT,ZP]);simp only[id,seval,Qb,e6,ZP]
  repeat' (with_reducible refine And.intro ?_ ?_)
  all_goals first|omega|skip
  all_goals
   refine hk _ ?_;simp only[Qf,show min (ids.length+1 - i) (ids.length+1 - (i+1))=ids.length - i by omega,show min (ids.length+1 - i) (ids.length - i)=ids.length - i by omega,Idn.cs];simp only[id,seval,Qb,XG];try exact fun _ _ _ _=>rfl
 simp only[Qf];(repeat refine Qc ?_);(refine Qa fun k hk=>?_;simp only[id,seval,Qb,ZP]);refine⟨by omega,by omega,?_⟩;(refine hk _ ?_;clear hk k;try show Sat _ _ _ _ _);have hil:=insL_len (ys:=ids) (r:=x) hi;refine Sat.le (st':=⟨51,[(0,.os 0 a2 (insL ids i x).length cap2)],[.row a2 27 (insL ids i x).length cap2 3 (QX (insL ids i x).toArray)]⟩) ?_ ?_
 ·(repeat refine Qc ?_);(refine Qa fun k hk=>?_;simp only[id,seval,Qb,ZP];refine hk _ ?_;clear hk k;try show Sat _ _ _ _ _);refine Sat.ret ?_;simp only[Tryz.results64,id,seval,Int.reduceToNat,Qb,retN,retNK,newRow,qb121];have hi0:i=0:=by omega
  refine⟨⟨rfl,rfl,rfl⟩,a2,cap2,?_⟩;rw[hids,hi0];rfl
 ·simp only[hil];simp only[id,seval,Qb,XG];exact ins_rd Idn.cs 3 (fun _=>rfl) hi rfl
end

section
open Go.Sort Eng
theorem BestOf.cover {α:Type} {key:α→Par} {lt:α→α→Bool} {C C':α→Prop} {X:List α} (hn:∀ x y z,lt x y=false→lt y z=false→lt x z=false) (h:BestOf key lt C X) (h1:∀ x,C x→C' x) (h2:∀ x,C' x→∃ x',C x'∧key x'=key x∧lt x x'=false):BestOf key lt C' X:=by
 refine⟨h.asc,fun e he=>⟨h1 e (h.each e he).1,fun x hx hk=>?_⟩,fun x hx=>?_⟩
 ·obtain⟨x',hx',hk',hlt⟩:=h2 x hx;exact hn _ _ _ hlt ((h.each e he).2 x' hx' (hk'.trans hk))
 ·obtain⟨x',hx',hk',_⟩:=h2 x hx;obtain⟨e,he,hk⟩:=h.all x' hx';exact⟨e,he,hk.trans hk'⟩
namespace Eng
theorem setA_2 (g h o1 o:Own) (l:List Own):setA [2] [o1] 0 (g :: h :: o :: l)=g :: h :: o1 :: l:=by
 show g :: h :: o1 :: setA [2] [o1] 3 l=_;rw[setA_rest [2] [o1] 3 (fun j hj=>by rw[List.mem_singleton.1 hj];omega) (Nat.le_refl _)]
end Eng
theorem ev_set {es:List Evd} {k:Nat} {x:Evd} {cs:List SV} (h:cs=Evd.cs x) (hk:k<es.length):rdEq es.length 4 (Z8 (Xi es) k 0 cs) (Xi (es.set k x)):=by
 subst h;intro p q hp hq;unfold Z8 Xi;by_cases e:p=k
 ·subst e;rw[if_pos ⟨rfl,by omega,by show q<0+4;omega⟩]
  have:(es.set p x).getD p default=x:=by rw[List.getD_eq_getElem?_getD,List.getElem?_set_self hk];rfl
  rw[this,Nat.sub_zero]
 ·rw[if_neg (fun g=>e g.1)]
  have:(es.set k x).getD p default=es.getD p default:=by rw[List.getD_eq_getElem?_getD,List.getElem?_set_ne (Ne.symm e),List.getD_eq_getElem?_getD]
  rw[this]
def mM (a b c:Res) (e:Evd):Prop:=mateR a b c=true∧MatE a.idn b.idn c.idn a.from_ c.from_ e
theorem matE_same {a b c:Idn} {fr mt:Int} {e f:Evd} (h:MatE a b c fr mt e) (g:MatE a b c fr mt f):f.pr=e.pr∧evB e f=false:=by
 refine⟨by rw[h.pr,g.pr],?_⟩;obtain⟨h1,h2,h3,h4⟩:=h;obtain⟨g1,g2,g3,g4⟩:=g;have h5:evCmp e f=0:=(evCmp_zero e f).2 ⟨by rw[h1,g1],by rw[h2,g2],by rw[h3,g3],h4.unique g4⟩;unfold evB;rw[h5];rfl
theorem best_mat {C:Evd→Prop} {a b c:Res} {e:Evd} {X:List Evd} (h:BestOf Evd.pr evB (fun y=>C y∨y=e) X) (hm:mM a b c e):BestOf Evd.pr evB (fun y=>C y∨mM a b c y) X:=by
 refine h.cover evB_neg (fun x hx=>hx.elim .inl fun e2=>.inr (by rw[e2];exact hm)) (fun x hx=>?_);rcases hx with hx|hx
 ·exact⟨x,.inl hx,rfl,ZZ x⟩
 ·obtain⟨h1,h2⟩:=matE_same hx.2 hm.2;exact⟨e,.inr rfl,h1,h2⟩
theorem parts_mat {xs zs:List Res} {gs:List Fg} (h:PartsOf xs gs) (hz:OrdOf xs zs) (e:Evd):(∃ g∈gs,∃ a∈g.rs,∃ b∈g.rs,∃ c∈zs,mM a b c e) ↔ MatC xs e:=by
 constructor
 ·rintro⟨g,hg,a,ha,b,hb,c,hc,h1,h2⟩;obtain⟨h3,h4,h5,h6⟩:=mateR_iff.1 h1;exact⟨g.rs,h.1 g hg,a,ha,b,hb,h3,c,((hz.2 c).1 hc).1,h4,h5,h6,h2⟩
 ·rintro⟨p,hp,a,ha,b,hb,h3,c,hc,h4,h5,h6,h2⟩;obtain⟨g,hg,rfl⟩:=h.2 p hp;exact⟨g,hg,a,ha,b,hb,c,(hz.2 c).2 ⟨hc,ZW h4⟩,mateR_iff.2 ⟨h3,h4,h5,h6⟩,h2⟩
theorem putR_3 {a b c:Idn} {l2 l3:List Idn} (h2:PutR [a] b l2) (h3:PutR l2 c l3):IdsOf [a,b,c] l3∧l3.length≤3:=by
 obtain⟨p1,p2,p3,_⟩:=putR_law (List.pairwise_singleton _ _) h2;obtain⟨q1,q2,q3,_⟩:=putR_law p1 h3;refine⟨⟨q1,fun d=>?_⟩,by simp at p3;omega⟩;rw[q2,p2];simp only[List.mem_cons,List.not_mem_nil,or_false,or_assoc]
def Zw:=And.intro @evr (And.intro @resT_from (And.intro @Z6 (And.intro @Qm (And.intro @QY (And.intro @Qv (And.intro @Qu (And.intro @Qq (And.intro @Qj (@evn)))))))))
def qb125:=And.intro @evr (And.intro @resT_from (And.intro @Z6 (And.intro @Qm (And.intro @QY (And.intro @Qv (And.intro @Qu (And.intro @Qq (And.intro @Qj (And.intro @evl (@evn))))))))))
def qb124:=And.intro @evr (And.intro @resT_from (And.intro @Z6 (And.intro @Qm (And.intro @QY (And.intro @Qv (And.intro @Qu (And.intro @List.append_nil.{0} (And.intro @Int.toNat_zero (And.intro @Nat.sub_self (And.intro @Qq (@Qj)))))))))))
set_option maxHeartbeats 4000000 in
set_option maxRecDepth 100000 in
theorem rfMatesLC (F:Frm) (ad:Option Addr) (cap:Nat) (xs:List Res) (hl:xs.length≤512) (hin:∀ r∈xs,RgR r) (hnn:∀ r∈xs,InA r.from_) :
  Contract F Tryz.prog 15 [.sl ad xs.length cap 17 (Qk xs.toArray)] (fun r=>(xs.any (fun x=>!QH x)=true∧∃ rd,r=Xh [.sl none 0 0 0 rd,.i .i64 1]) ∨
   (xs.any (fun x=>!QH x)=false∧∃ a cap es,MatOf xs es∧es.length≤262144∧r=Xh [.sl a es.length cap 4 (Xi es),.i .i64 0])):=by
 refine Qi Tryz.func15 rfl (by kernel_rfl) ?_;simp only[Tryz.ntmps15,Qt];(repeat refine Qc ?_);(refine Qa fun k hk=>?_;simp only[id,seval,Qb,Zw];refine hk _ ?_;clear hk k;try show Sat _ _ _ _ _);(repeat refine Qc ?_);(refine Qa fun k hk=>?_;simp only[id,seval,Qb,Zw]);refine Qd (refLimitedC F ad cap xs hl hin) rfl (by rintro _ rfl;exact Qh rfl) ?_;rintro _ rfl;simp only[id,seval,Qb,Zw];(refine hk _ ?_;clear hk k;try show Sat _ _ _ _ _);(repeat refine Qc ?_);(refine Qa fun k hk=>?_;simp only[id,seval,Qb,Zw];refine hk _ ?_;clear hk k;try show Sat _ _ _ _ _);(repeat refine Qc ?_);refine Qe rfl (fun h=>?_) (fun h=>?_)
 ·have hb:xs.any (fun x=>!QH x)=true:=by
   cases hx:xs.any (fun x=>!QH x) with
   | true=>rfl
   | false=>rw[hx] at h;cases h
  rw[hb];(repeat refine Qc ?_);(refine Qa fun k hk=>?_;simp only[id,seval,Qb,Zw];refine hk _ ?_;clear hk k;try show Sat _ _ _ _ _);refine Sat.ret ?_;simp only[Tryz.results15,id,seval,Int.reduceToNat,Qb,qb124];exact .inl ⟨_,rfl⟩
 have hb:xs.any (fun x=>!QH x)=false:=by
  cases hx:xs.any (fun x=>!QH x) with
  | false=>rfl
  | true=>rw[hx] at h;cases h
 refine Sat.skip ?_;simp only[Qf];(repeat refine Qc ?_);(refine Qa fun k hk=>?_;simp only[id,seval,Qb,Zw];refine hk _ ?_;clear hk k;try show Sat _ _ _ _ _);(repeat refine Qc ?_);(refine Qa fun k hk=>?_;simp only[id,seval,Qb,Zw]);refine Q8 (orderG F ad cap xs (by omega) hin) rfl rfl ?_;rintro za ty len zc sz rrd ⟨a1,c1,zs,ho,hzl,e⟩;simp only[Qb,Eng.Own.row.injEq] at e;obtain⟨rfl,rfl,rfl,rfl,rfl,rfl⟩:=e;simp only[id,seval,Qb,Zw];(refine hk _ ?_;clear hk k;try show Sat _ _ _ _ _);refine QQ [] 6 rfl ?_;refine Q1 5 32 4 (Xi []) rfl ?_;(repeat refine Qc ?_);(refine Qa fun k hk=>?_;simp only[id,seval,Qb,Zw]);refine Q2 (rfPartsC F ad cap xs hl hin) rfl rfl ?_;rintro _ ⟨ga,gc,gs,hps,hgl,hgr,rfl⟩;simp only[id,seval,Qb,Zw];(refine hk _ ?_;clear hk k;try show Sat _ _ _ _ _);have hsub:∀ g∈gs,∀ a∈g.rs,a∈xs:=fun g hg a ha=>((hps.1 g hg).sub a ha).1;have hsubz:∀ c∈zs,c∈xs:=fun c hc=>((ho.2 c).1 hc).1;(repeat refine Qc ?_);(refine Qa fun k hk=>?_;simp only[id,seval,Qb,Zw];refine hk _ ?_;clear hk k;try show Sat _ _ _ _ _);(repeat refine Qc ?_);refine Sat.block ?_;refine Qo (ι:=Nat×List Evd×Option Addr×Nat) (fun z=>⟨139,[(8,.i .i64 z.1),(7,.sl ga gs.length gc 1 (fgS gs)),(6,.sl za zs.length zc 17 (Qk zs.toArray)),(5,.os 0 z.2.2.1 z.2.1.length z.2.2.2)],[.row z.2.2.1 32 z.2.1.length z.2.2.2 4 (Xi z.2.1)]⟩)
  (fun z=>z.1≤gs.length∧BestOf Evd.pr evB (fun x=>∃ g∈gs.take z.1,∃ a∈g.rs,∃ b∈g.rs,∃ c∈zs,mM a b c x) z.2.1∧∀ e∈z.2.1,e.ids.length≤3) (fun z=>gs.length - z.1) (0,[],none,0)
  ⟨Nat.zero_le _,BestOf.start.congr fun x=>⟨fun h=>h.elim,fun⟨g,hg,_⟩=>by simp at hg⟩,fun e he=>(by cases he)⟩ (by simp only[List.length_nil];simp only[id,seval,Qb,qb125];first|done|rfl|exact⟨rfl,rfl⟩|trace_state) ?_
 rintro⟨i,es,oa,oc⟩ ⟨hi,hB,hZ⟩;simp only at hi hB hZ ⊢;(repeat refine Qc ?_);(refine Qa fun k hk=>?_;simp only[id,seval,Qb,Zw];refine hk _ ?_;clear hk k;try show Sat _ _ _ _ _);(repeat refine Qc ?_);refine Qe rfl (fun h=>?_) (fun h=>?_)
 ·have h1:i<gs.length:=by simp only[decide_eq_true_eq] at h;omega
  have e1:IntKind.i64.wrap ((i:Int)+1)=((i+1:Nat):Int):=by rw[w64 (by omega)];omega
  obtain⟨g,hg⟩:∃ g,g=gs.getD i default:=⟨_,rfl⟩;have hgi:gs[i]=g:=by rw[hg,List.getD_eq_getElem?_getD,List.getElem?_eq_getElem h1];rfl
  have hgm:g∈gs:=by rw[← hgi];exact List.getElem_mem h1
  have hgl2:=hgr g hgm;have q0:fgS gs i 0=.sl g.a g.rs.length g.cap 17 (Qk g.rs.toArray):=by rw[hg];rfl
  have htk:gs.take (i+1)=gs.take i ++ [g]:=by rw[List.take_succ_eq_append_getElem h1,hgi]
  refine Sat.skip ?_;simp only[Qf];(repeat refine Qc ?_);refine Sat.block ?_;(repeat refine Qc ?_);(refine Qa fun k hk=>?_;simp only[id,seval,Qb,Zw]);simp only[q0];refine⟨by omega,?_⟩;(refine hk _ ?_;clear hk k;try show Sat _ _ _ _ _);(repeat refine Qc ?_);(refine Qa fun k hk=>?_;simp only[id,seval,Qb,Zw];refine hk _ ?_;clear hk k;try show Sat _ _ _ _ _);(repeat refine Qc ?_);refine Sat.block ?_;refine Qo (ι:=Nat×List Evd×Option Addr×Nat) (fun z=>⟨139,[(10,.i .i64 z.1),(9,.sl g.a g.rs.length g.cap 17 (Qk g.rs.toArray)),(8,.i .i64 i),(7,.sl ga gs.length gc 1 (fgS gs)),(6,.sl za zs.length zc 17 (Qk zs.toArray)),(5,.os 0 z.2.2.1 z.2.1.length z.2.2.2)],[.row z.2.2.1 32 z.2.1.length z.2.2.2 4 (Xi z.2.1)]⟩)
   (fun z=>z.1≤g.rs.length∧BestOf Evd.pr evB (fun x=>(∃ g∈gs.take i,∃ a∈g.rs,∃ b∈g.rs,∃ c∈zs,mM a b c x)∨∃ a∈g.rs.take z.1,∃ b∈g.rs,∃ c∈zs,mM a b c x) z.2.1∧∀ e∈z.2.1,e.ids.length≤3) (fun z=>g.rs.length - z.1) (0,es,oa,oc)
   ⟨Nat.zero_le _,hB.congr fun x=>⟨.inl,fun h=>h.elim id fun⟨a,ha,_⟩=>by simp at ha⟩,hZ⟩ (by simp only[id,seval,Qb,qb125];first|done|rfl|exact⟨rfl,rfl⟩|trace_state) ?_
  clear hB hZ;rintro⟨j,es,oa,oc⟩ ⟨hj,hB,hZ⟩;simp only at hj hB hZ ⊢;(repeat refine Qc ?_);(refine Qa fun k hk=>?_;simp only[id,seval,Qb,Zw];refine hk _ ?_;clear hk k;try show Sat _ _ _ _ _);(repeat refine Qc ?_);refine Qe rfl (fun h=>?_) (fun h=>?_)
  ·have h2:j<g.rs.length:=by simp only[decide_eq_true_eq] at h;omega
   have e2:IntKind.i64.wrap ((j:Int)+1)=((j+1:Nat):Int):=by rw[w64 (by omega)];omega
   obtain⟨a,ha⟩:∃ a,a=g.rs.toArray[j]! := ⟨_,rfl⟩;have haj:g.rs[j]=a:=by rw[ha,getB h2]
   have ham:a∈g.rs:=by rw[← haj];exact List.getElem_mem h2
   have htk2:g.rs.take (j+1)=g.rs.take j ++ [a]:=by rw[List.take_succ_eq_append_getElem h2,haj]
   refine Sat.skip ?_;simp only[Qf];(repeat refine Qc ?_);refine Sat.block ?_;(repeat refine Qc ?_);(refine Qa fun k hk=>?_;simp only[id,seval,Qb,Zw];refine hk _ ?_;clear hk k;try show Sat _ _ _ _ _);(repeat refine Qc ?_);refine Sat.block ?_;refine Qo (ι:=Nat×List Evd×Option Addr×Nat) (fun z=>⟨139,[(11,.i .i64 z.1),(10,.i .i64 j),(9,.sl g.a g.rs.length g.cap 17 (Qk g.rs.toArray)),(8,.i .i64 i),(7,.sl ga gs.length gc 1 (fgS gs)),(6,.sl za zs.length zc 17 (Qk zs.toArray)),(5,.os 0 z.2.2.1 z.2.1.length z.2.2.2)],[.row z.2.2.1 32 z.2.1.length z.2.2.2 4 (Xi z.2.1)]⟩)
    (fun z=>z.1≤g.rs.length∧BestOf Evd.pr evB (fun x=>((∃ g∈gs.take i,∃ a∈g.rs,∃ b∈g.rs,∃ c∈zs,mM a b c x)∨∃ a∈g.rs.take j,∃ b∈g.rs,∃ c∈zs,mM a b c x)∨∃ b∈g.rs.take z.1,∃ c∈zs,mM a b c x) z.2.1∧∀ e∈z.2.1,e.ids.length≤3) (fun z=>g.rs.length - z.1) (0,es,oa,oc)
    ⟨Nat.zero_le _,hB.congr fun x=>⟨.inl,fun h=>h.elim id fun⟨a,ha,_⟩=>by simp at ha⟩,hZ⟩ (by simp only[id,seval,Qb,qb125];first|done|rfl|exact⟨rfl,rfl⟩|trace_state) ?_
   clear hB hZ;rintro⟨l,es,oa,oc⟩ ⟨hl3,hB,hZ⟩;simp only at hl3 hB hZ ⊢;(repeat refine Qc ?_);(refine Qa fun k hk=>?_;simp only[id,seval,Qb,Zw];refine hk _ ?_;clear hk k;try show Sat _ _ _ _ _);(repeat refine Qc ?_);refine Qe rfl (fun h=>?_) (fun h=>?_)
   ·have h3:l<g.rs.length:=by simp only[decide_eq_true_eq] at h;omega
    have e3:IntKind.i64.wrap ((l:Int)+1)=((l+1:Nat):Int):=by rw[w64 (by omega)];omega
    obtain⟨b,hbd⟩:∃ b,b=g.rs.toArray[l]! := ⟨_,rfl⟩;have hbl:g.rs[l]=b:=by rw[hbd,getB h3]
    have hbm:b∈g.rs:=by rw[← hbl];exact List.getElem_mem h3
    have htk3:g.rs.take (l+1)=g.rs.take l ++ [b]:=by rw[List.take_succ_eq_append_getElem h3,hbl]
    have hfc:Contract Frm.nil Tryz.prog 31 [.agg 17 fun q=>Qk g.rs.toArray j q,.agg 17 fun q=>Qk g.rs.toArray l q] (fun r=>r=.b (folR a b)):=by
     have h9:=rfFolC Frm.nil a b;rw[ha,hbd] at h9 ⊢;exact h9
    refine Sat.skip ?_;simp only[Qf];(repeat refine Qc ?_);refine Sat.block ?_;(repeat refine Qc ?_);(refine Qr (by kernel_rfl) (by kernel_rfl) fun k hk=>?_;simp only[id,seval,Qb,Zw]);refine⟨by omega,by omega,?_⟩;refine ZV hfc rfl (Qh rfl) ?_;simp only[id,seval,Qb,Zw];refine hk _ ?_;clear hk k;simp only[Qf];(repeat refine Qc ?_);refine Qe rfl (fun h4=>?_) (fun h4=>?_)
    ·have hno:folR a b=false:=by simpa using h4
     refine Sat.exit ?_;simp only[Qf,Qg,reduceIte];refine Qa fun kk hk=>?_;simp only[id,seval,Qb,e3,Zw];refine hk _ ?_;simp only[Qf,Qg];refine⟨(l+1,es,oa,oc),⟨h3,hB.congr fun x=>?_,hZ⟩,by simp only;omega,?_⟩
     ·simp only;rw[htk3];refine or_congr Iff.rfl ⟨fun⟨b',h8,h9⟩=>⟨b',List.mem_append.2 (.inl h8),h9⟩,fun⟨b',h8,h9⟩=>?_⟩;rcases List.mem_append.1 h8 with h8|h8
      ·exact⟨b',h8,h9⟩
      ·rw[List.mem_singleton] at h8;subst h8;obtain⟨c,_,h7,_⟩:=h9;have h6:=(mateR_iff.1 h7).1;rw[hno] at h6;cases h6
     ·simp only[id,seval,Qb,qb125];try rfl
    have hfol:folR a b=true:=by simpa using h4
    refine Sat.skip ?_;simp only[Qf];(repeat refine Qc ?_);(refine Qa fun k hk=>?_;simp only[id,seval,Qb,Zw];refine hk _ ?_;clear hk k;try show Sat _ _ _ _ _);(repeat refine Qc ?_);refine Sat.block ?_;refine Qo (ι:=Nat×List Evd×Option Addr×Nat) (fun z=>⟨139,[(12,.i .i64 z.1),(11,.i .i64 l),(10,.i .i64 j),(9,.sl g.a g.rs.length g.cap 17 (Qk g.rs.toArray)),(8,.i .i64 i),(7,.sl ga gs.length gc 1 (fgS gs)),(6,.sl za zs.length zc 17 (Qk zs.toArray)),(5,.os 0 z.2.2.1 z.2.1.length z.2.2.2)],[.row z.2.2.1 32 z.2.1.length z.2.2.2 4 (Xi z.2.1)]⟩)
     (fun z=>z.1≤zs.length∧BestOf Evd.pr evB (fun x=>(((∃ g∈gs.take i,∃ a∈g.rs,∃ b∈g.rs,∃ c∈zs,mM a b c x)∨∃ a∈g.rs.take j,∃ b∈g.rs,∃ c∈zs,mM a b c x)∨∃ b∈g.rs.take l,∃ c∈zs,mM a b c x)∨∃ c∈zs.take z.1,mM a b c x) z.2.1∧∀ e∈z.2.1,e.ids.length≤3) (fun z=>zs.length - z.1) (0,es,oa,oc)
     ⟨Nat.zero_le _,hB.congr fun x=>⟨.inl,fun h=>h.elim id fun⟨a,ha,_⟩=>by simp at ha⟩,hZ⟩ (by simp only[id,seval,Qb,qb125];first|done|rfl|exact⟨rfl,rfl⟩|trace_state) ?_
    clear hB hZ;rintro⟨n,es,oa,oc⟩ ⟨hn3,hB,hZ⟩;simp only at hn3 hB hZ ⊢;(repeat refine Qc ?_);(refine Qa fun k hk=>?_;simp only[id,seval,Qb,Zw];refine hk _ ?_;clear hk k;try show Sat _ _ _ _ _);(repeat refine Qc ?_);refine Qe rfl (fun h=>?_) (fun h=>?_)
    ·have h5:n<zs.length:=by simp only[decide_eq_true_eq] at h;omega
     have e5:IntKind.i64.wrap ((n:Int)+1)=((n+1:Nat):Int):=by rw[w64 (by omega)];omega
     obtain⟨c,hcd⟩:∃ c,c=zs.toArray[n]! := ⟨_,rfl⟩;have hcl:zs[n]=c:=by rw[hcd,getB h5]
     have hcm:c∈zs:=by rw[← hcl];exact List.getElem_mem h5
     have htk5:zs.take (n+1)=zs.take n ++ [c]:=by rw[List.take_succ_eq_append_getElem h5,hcl]
     have hbx:=hsub g hgm b hbm;have hax:=hsub g hgm a ham;have hcx:=hsubz c hcm
     have hmc:Contract Frm.nil Tryz.prog 63 [.agg 17 fun q=>Qk g.rs.toArray j q,.agg 17 fun q=>Qk g.rs.toArray l q,.agg 17 fun q=>Qk zs.toArray n q] (fun r=>r=.b (mateR a b c)):=by
      have h9:=rfMatesC Frm.nil a b c (hnn b hbx).1;rw[ha,hbd,hcd] at h9 ⊢;exact h9
     refine Sat.skip ?_;simp only[Qf];(repeat refine Qc ?_);refine Sat.block ?_;(repeat refine Qc ?_);(refine Qr (by kernel_rfl) (by kernel_rfl) fun k hk=>?_;simp only[id,seval,Qb,Zw]);refine⟨by omega,by omega,by omega,?_⟩;refine ZV hmc rfl (Qh rfl) ?_;simp only[id,seval,Qb,Zw];refine hk _ ?_;clear hk k;simp only[Qf];(repeat refine Qc ?_);refine Qe rfl (fun h6=>?_) (fun h6=>?_)
     ·have hno:mateR a b c=false:=by simpa using h6
      refine Sat.exit ?_;simp only[Qf,Qg,reduceIte];refine Qa fun kk hk=>?_;simp only[id,seval,Qb,e5,Zw];refine hk _ ?_;simp only[Qf,Qg];refine⟨(n+1,es,oa,oc),⟨h5,hB.congr fun x=>?_,hZ⟩,by simp only;omega,?_⟩
      ·simp only;rw[htk5];refine or_congr Iff.rfl ⟨fun⟨b',h8,h9⟩=>⟨b',List.mem_append.2 (.inl h8),h9⟩,fun⟨b',h8,h9⟩=>?_⟩;rcases List.mem_append.1 h8 with h8|h8
       ·exact⟨b',h8,h9⟩
       ·rw[List.mem_singleton] at h8;subst h8;have h7:=h9.1;rw[hno] at h7;cases h7
      ·simp only[id,seval,Qb,qb125];try rfl
     have hmat:mateR a b c=true:=by simpa using h6
     refine Sat.skip ?_;simp only[Qf];(repeat refine Qc ?_)
     have hel:es.length≤262144:=by
      have h8:=best_le hB (la:=xs.map Res.from_) (fun x hx=>by
       have key:∀ {a b c:Res},a∈xs→c∈xs→mM a b c x→(Evd.pr x).a∈xs.map Res.from_∧(Evd.pr x).b∈xs.map Res.from_:=fun {a b c} h5 h6 ⟨_,h7⟩=>by
        have m1:a.from_∈xs.map Res.from_:=List.mem_map.2 ⟨a,h5,rfl⟩;have m2:c.from_∈xs.map Res.from_:=List.mem_map.2 ⟨c,h6,rfl⟩;rw[h7.pr];rcases Int.le_total a.from_ c.from_ with h8|h8
        ·simp only[Int.min_eq_left h8,Int.max_eq_right h8];exact⟨m1,m2⟩
        ·simp only[Int.min_eq_right h8,Int.max_eq_left h8];exact⟨m2,m1⟩
       rcases hx with ((⟨g2,hg2,a2,ha2,b2,hb2,c2,hc2,hm⟩|⟨a2,ha2,b2,hb2,c2,hc2,hm⟩)|⟨b2,hb2,c2,hc2,hm⟩)|⟨c2,hc2,hm⟩
       ·exact key (hsub g2 (List.mem_of_mem_take hg2) a2 ha2) (hsubz c2 hc2) hm
       ·exact key (hsub g hgm a2 (List.mem_of_mem_take ha2)) (hsubz c2 hc2) hm
       ·exact key hax (hsubz c2 hc2) hm
       ·exact key hax (hsubz c2 (List.mem_of_mem_take hc2)) hm)
      rw[List.length_map] at h8;exact Nat.le_trans h8 (Nat.le_trans (Nat.mul_le_mul hl hl) (by decide))
     refine Sat.at ⟨139,[(13,.i .u32 a.from_),(14,.i .u32 c.from_),(12,.i .i64 n),(11,.i .i64 l),(10,.i .i64 j),(9,.sl g.a g.rs.length g.cap 17 (Qk g.rs.toArray)),(8,.i .i64 i),(7,.sl ga gs.length gc 1 (fgS gs)),(6,.sl za zs.length zc 17 (Qk zs.toArray)),(5,.os 0 oa es.length oc)],[.row oa 32 es.length oc 4 (Xi es)]⟩ ?_ ?_
     ·(refine Qp (.keep [0,1,2,3,4,6,7,8,9,10,5,11,12,13] [] .done) (by kernel_rfl) (by kernel_rfl) (fun _ _ h=>h) fun k hk=>?_;simp only[WOT,List.map_cons,List.map_nil,List.getD_cons_zero,List.getD_cons_succ];simp only[id,seval,Qb,WOT,Zw])
      repeat' (first
       | (with_reducible refine And.intro ?_ ?_)
       | omega)
      all_goals
       refine hk _ ?_;simp only[Qf,← ha,← hcd];simp only[id,seval,Qb,qb125]
     simp only[Qf];(repeat refine Qc ?_);(refine Qa fun k hk=>?_;simp only[id,seval,Qb,Zw]);intro b15;(refine hk _ ?_;clear hk k;try show Sat _ _ _ _ _)
     have hia:Contract F Tryz.prog 54 [.agg 17 fun q=>Qk g.rs.toArray j q] (fun r=>r=Z7 a):=by
      have h9:=identG F a;rw[ha] at h9 ⊢;exact h9
     have hib:Contract F Tryz.prog 54 [.agg 17 fun q=>Qk g.rs.toArray l q] (fun r=>r=Z7 b):=by
      have h9:=identG F b;rw[hbd] at h9 ⊢;exact h9
     have hic:Contract F Tryz.prog 54 [.agg 17 fun q=>Qk zs.toArray n q] (fun r=>r=Z7 c):=by
      have h9:=identG F c;rw[hcd] at h9 ⊢;exact h9
     (repeat refine Qc ?_);(refine Qp (.keep [0,1,2,6,7,8,12,13,14,3,9,15] [4,5,10,11] (.one 4 (.one 5 (.one 10 (.one 11 (.one 16 (.one 17 (.one 18 (.one 19 .done))))))))) (by kernel_rfl) (by kernel_rfl) (fun _ _ h=>h) fun k hk=>?_;simp only[WOT,List.map_cons,List.map_nil,List.getD_cons_zero,List.getD_cons_succ];simp only[id,seval,Qb,WOT,Zw]);refine⟨by omega,by omega,by omega,?_⟩;refine Qd hia rfl (by rintro _ rfl;exact idAg_ok _) ?_;rintro _ rfl;simp only[Z7,id,seval,Int.reduceToNat,Qb,qb124];refine Q8 (putId0C F a.idn _) rfl rfl ?_;rintro ra2 ty2 len2 rc2 sz2 rrd2 ⟨pa,pc,e9⟩;simp only[Eng.Own.row.injEq] at e9;obtain⟨rfl,rfl,rfl,rfl,rfl,rfl⟩:=e9;simp only[id,seval,Qb,Zw];refine Qd hib rfl (by rintro _ rfl;exact idAg_ok _) ?_;rintro _ rfl;simp only[Z7,id,seval,Int.reduceToNat,Qb,qb124];refine wcall_multi [] [2] (putIdSC F ra2 rc2 [a.idn] b.idn (by simp)) rfl (by decide) (by simp only[id,seval,Qb,renO,Zw]) (by simp only[List.map_cons,List.map_nil,argL_id];rfl) ?_;rintro r os1 ⟨a2,c2,ids2,hput2,rfl,rfl⟩;simp only[Eng.frz,List.foldl_nil,List.map_cons,List.map_nil,renI_one,renO_row,setA_2];simp only[id,seval,Qb,Zw];have hl2:ids2.length≤2:=by have:=(putR_law (List.pairwise_singleton _ _) hput2).2.2.1;simpa using this
     refine Qd hic rfl (by rintro _ rfl;exact idAg_ok _) ?_;rintro _ rfl;simp only[Z7,id,seval,Int.reduceToNat,Qb,qb124];refine wcall_multi [] [2] (putIdSC F a2 c2 ids2 c.idn (by omega)) rfl (by decide) (by simp only[id,seval,Qb,renO,Zw]) (by simp only[List.map_cons,List.map_nil,argL_id];rfl) ?_;rintro r os1 ⟨a3,c3,ids3,hput3,rfl,rfl⟩;simp only[Eng.frz,List.foldl_nil,List.map_cons,List.map_nil,renI_one,renO_row,setA_2];simp only[id,seval,Qb,Zw];(refine hk _ ?_;clear hk k;try show Sat _ _ _ _ _);obtain⟨hids,hil⟩:=putR_3 hput2 hput3;obtain⟨e,he⟩:∃ e:Evd,e=⟨2,min a.from_ c.from_,max a.from_ c.from_,ids3,a3,c3⟩:=⟨_,rfl⟩;have heM:mM a b c e:=⟨hmat,by rw[he];exact⟨rfl,rfl,rfl,hids⟩⟩;have hei:e.ids.length≤3:=by rw[he];exact hil
     refine XP 1 3 rfl rfl rfl ?_;simp only[id,seval,Qb,Zw];refine Q9 15 rfl rfl ?_;refine Sat.le (st':=⟨139,[(15,.el ⟨b15,0,none⟩ 4 fun j=>(Evd.cs e).getD j default),(12,.i .i64 n),(11,.i .i64 l),(10,.i .i64 j),(9,.sl g.a g.rs.length g.cap 17 (Qk g.rs.toArray)),(8,.i .i64 i),(7,.sl ga gs.length gc 1 (fgS gs)),(6,.sl za zs.length zc 17 (Qk zs.toArray)),(5,.os 0 oa es.length oc)],[.row oa 32 es.length oc 4 (Xi es)]⟩) ?_ (by rw[he];simp only[Evd.cs];simp only[id,seval,Qb,qb125];first|done|rfl|exact⟨rfl,rfl⟩|trace_state);simp only[Evd.cs];have hnext:∀ (es2:List Evd),BestOf Evd.pr evB (fun y=>(((((∃ g∈gs.take i,∃ a∈g.rs,∃ b∈g.rs,∃ c∈zs,mM a b c y)∨∃ a∈g.rs.take j,∃ b∈g.rs,∃ c∈zs,mM a b c y)∨∃ b∈g.rs.take l,∃ c∈zs,mM a b c y)∨∃ c∈zs.take n,mM a b c y))∨y=e) es2 →
       BestOf Evd.pr evB (fun x=>(((∃ g∈gs.take i,∃ a∈g.rs,∃ b∈g.rs,∃ c∈zs,mM a b c x)∨∃ a∈g.rs.take j,∃ b∈g.rs,∃ c∈zs,mM a b c x)∨∃ b∈g.rs.take l,∃ c∈zs,mM a b c x)∨∃ c∈zs.take (n+1),mM a b c x) es2:=fun es2 h8=>(best_mat h8 heM).congr fun x=>by
      rw[htk5,or_assoc];refine or_congr Iff.rfl ⟨fun h=>?_,fun⟨b',h8,h9⟩=>?_⟩
      ·rcases h with ⟨b',h8,h9⟩|h
       ·exact⟨b',List.mem_append.2 (.inl h8),h9⟩
       ·exact⟨c,List.mem_append.2 (.inr (List.mem_singleton.2 rfl)),h⟩
      ·rcases List.mem_append.1 h8 with h8|h8
       ·exact .inl ⟨b',h8,h9⟩
       ·rw[List.mem_singleton] at h8;subst h8;exact .inr h9
     refine QT (ι:=List Evd×Option Addr×Nat) (fun z=>⟨139,[(12,.i .i64 n),(11,.i .i64 l),(10,.i .i64 j),(9,.sl g.a g.rs.length g.cap 17 (Qk g.rs.toArray)),(8,.i .i64 i),(7,.sl ga gs.length gc 1 (fgS gs)),(6,.sl za zs.length zc 17 (Qk zs.toArray)),(5,.os 0 z.2.1 z.1.length z.2.2)],[.row z.2.1 32 z.1.length z.2.2 4 (Xi z.1)]⟩) (fun z=>BestOf Evd.pr evB (fun y=>((((∃ g∈gs.take i,∃ a∈g.rs,∃ b∈g.rs,∃ c∈zs,mM a b c y)∨∃ a∈g.rs.take j,∃ b∈g.rs,∃ c∈zs,mM a b c y)∨∃ b∈g.rs.take l,∃ c∈zs,mM a b c y)∨∃ c∈zs.take n,mM a b c y)∨y=e) z.1∧∀ e∈z.1,e.ids.length≤3) ?_ ?_
     ·have hwm:∀ {a c:Res} {x:Evd} {b:Res},a∈xs→c∈xs→mM a b c x→IntKind.i64.wrap x.a=x.a∧IntKind.i64.wrap x.b=x.b:=fun {a c x b} h5 h6 ⟨_,_,h7,h8,_⟩=>by
       have m1:IntKind.i64.wrap a.from_=a.from_:=(hin a h5).2;have m2:IntKind.i64.wrap c.from_=c.from_:=(hin c h6).2;rw[h7,h8];rcases Int.le_total a.from_ c.from_ with h9|h9
       ·rw[Int.min_eq_left h9,Int.max_eq_right h9];exact⟨m1,m2⟩
       ·rw[Int.min_eq_right h9,Int.max_eq_left h9];exact⟨m2,m1⟩
      have hwe:=hwm hax hcx heM
      have hwy:∀ y∈es,IntKind.i64.wrap y.a=y.a∧IntKind.i64.wrap y.b=y.b:=fun y hy=>by
       rcases (hB.each y hy).1 with ((⟨g2,hg2,a2,ha2,b2,hb2,c2,hc2,hm⟩|⟨a2,ha2,b2,hb2,c2,hc2,hm⟩)|⟨b2,hb2,c2,hc2,hm⟩)|⟨c2,hc2,hm⟩
       ·exact hwm (hsub g2 (List.mem_of_mem_take hg2) a2 ha2) (hsubz c2 hc2) hm
       ·exact hwm (hsub g hgm a2 (List.mem_of_mem_take ha2)) (hsubz c2 hc2) hm
       ·exact hwm hax (hsubz c2 hc2) hm
       ·exact hwm hax (hsubz c2 (List.mem_of_mem_take hc2)) hm
      (repeat refine Qc ?_);(refine Qa fun k hk=>?_;simp only[id,seval,Qb,Zw]);refine Qd (atSC F oa oc es e.pr (by omega)) (by simp only[id,seval,Qb,Zw];try rfl) (by rintro _ (⟨rfl,_⟩|⟨_,_,_,rfl⟩)<;>exact Qh rfl) ?_;rintro r (⟨rfl,hno⟩|⟨q,hq,hqp,rfl⟩)
      ·simp only[id,seval,Qb,Zw];(refine hk _ ?_;clear hk k;try show Sat _ _ _ _ _);(repeat refine Qc ?_);(refine Qa fun k hk=>?_;simp only[id,seval,Qb,Zw];refine hk _ ?_;clear hk k;try show Sat _ _ _ _ _);(repeat refine Qc ?_);refine Qe rfl (fun _=>?_) (fun h=>absurd h (by decide));(refine Qa fun k hk=>?_;simp only[id,seval,Qb,Zw])
       refine wcall_multi [] [0] (putEvSC F oa oc es e (by omega)) rfl (by decide) (by simp only[id,seval,Qb,renO,Zw]) (by
        simp only[List.map_cons,List.map_nil];rw[argL_lits]
        ·rfl
        ·intro s hs;simp only[List.mem_cons,List.not_mem_nil,or_false] at hs
         rcases hs with rfl|rfl|rfl|rfl<;>rfl) ?_
       rintro r os1 ⟨a',c',k',hk',hlt',hge',rfl,rfl⟩;simp only[Eng.frz,List.foldl_nil,List.map_cons,List.map_nil,renI_one,renO_row,setA_0];simp only[id,seval,Qb,Zw];refine hk _ ?_;clear hk k;simp only[Qf];refine⟨(insL es k' e,a',c'),⟨hB.ins ZZ hk' hlt' (fun h8=>?_),fun f hf=>?_⟩,?_⟩
       ·rcases parLt_total e.pr (es.getD k' default).pr with h9|h9|h9
        ·exact h9
        ·exact absurd h9.symm (hno k' h8)
        ·rw[hge' h8] at h9;cases h9
       ·rcases insL_mem.1 hf with hf|hf
        ·exact hZ f hf
        ·rw[hf];exact hei
       ·simp only[id,seval,Qb,qb125];try rfl
      ·obtain⟨y,hy⟩:∃ y,y=es.getD q default:=⟨_,rfl⟩;have hym:y∈es:=by rw[hy];exact Q3 hq
       have hyl:=hZ y hym
       have hcc:Contract Frm.nil Tryz.prog 67 [.agg 4 fun j=>(Evd.cs e).getD j default,.agg 4 fun j=>Xi es q j] (fun r=>r=.i .i64 (evCmp e y)):=by
        have h9:=refCompareEvC Frm.nil e y (by omega) (by omega) hwe.1 hwe.2 (hwy y hym).1 (hwy y hym).2;rw[hy] at h9 ⊢;exact h9
       simp only[id,seval,Qb,Zw];(refine hk _ ?_;clear hk k;try show Sat _ _ _ _ _);(repeat refine Qc ?_);(refine Qa fun k hk=>?_;simp only[id,seval,Qb,Zw];refine hk _ ?_;clear hk k;try show Sat _ _ _ _ _);(repeat refine Qc ?_);refine Qe rfl (fun h=>absurd h (by simp)) (fun _=>?_);(repeat refine Qc ?_);refine Sat.at ⟨139,[(133,.b (evB e y)),(16,.i .i64 q),(15,.el ⟨b15,0,none⟩ 4 fun j=>(Evd.cs e).getD j default),(12,.i .i64 n),(11,.i .i64 l),(10,.i .i64 j),(9,.sl g.a g.rs.length g.cap 17 (Qk g.rs.toArray)),(8,.i .i64 i),(7,.sl ga gs.length gc 1 (fgS gs)),(6,.sl za zs.length zc 17 (Qk zs.toArray)),(5,.os 0 oa es.length oc)],[.row oa 32 es.length oc 4 (Xi es)]⟩ ?_ ?_
       ·(refine Qr (by kernel_rfl) (by kernel_rfl) fun k hk=>?_;simp only[id,seval,Qb,Zw]);refine⟨by omega,by omega,?_⟩;refine ZV hcc rfl (Qh rfl) ?_;simp only[id,seval,Qb,Zw];refine hk _ ?_;simp only[Qf,Evd.cs];simp only[id,seval,Qb,qb125];exact .inl rfl
       simp only[Qf,Evd.cs];refine Qe rfl (fun h9=>?_) (fun h9=>?_)
       ·(refine Qa fun k hk=>?_;simp only[id,seval,Qb,Zw]);refine⟨by omega,by omega,?_⟩;refine hk _ ?_;clear hk k;simp only[Qf];refine⟨(es.set q e,oa,oc),⟨hB.rep ZZ evB_trans hq hqp (by rw[← hy];exact h9),fun f hf=>?_⟩,?_⟩
        ·rcases List.mem_or_eq_of_mem_set hf with hf|hf
         ·exact hZ f hf
         ·rw[hf];exact hei
        ·simp only[List.length_set];simp only[id,seval,Qb,qb125];exact ev_set rfl hq
       ·refine Sat.skip ?_;simp only[Qf];refine⟨(es,oa,oc),⟨hB.kep hq hqp (by rw[← hy];exact h9),hZ⟩,?_⟩;simp only[id,seval,Qb,qb125];try rfl
     rintro⟨es2,oa2,oc2⟩ ⟨hB2,hZ2⟩;simp only[Qf,Qg,reduceIte] at hB2 hZ2 ⊢;refine Qa fun kk hk=>?_;simp only[id,seval,Qb,e5,Zw];refine hk _ ?_;simp only[Qf,Qg];refine⟨(n+1,es2,oa2,oc2),⟨h5,hnext es2 hB2,hZ2⟩,by simp only;omega,?_⟩;simp only[id,seval,Qb,qb125];try rfl
    have h5:n=zs.length:=by simp only[decide_eq_false_iff_not] at h;omega
    subst h5;rw[List.take_length] at hB;refine Sat.exit ?_;simp only[Qf,Qg,reduceIte];refine Qa fun kk hk=>?_;simp only[id,seval,Qb,e3,Zw];refine hk _ ?_;simp only[Qf,Qg];refine⟨(l+1,es,oa,oc),⟨h3,hB.congr fun x=>?_,hZ⟩,by simp only;omega,?_⟩
    ·simp only;rw[htk3,or_assoc];refine or_congr Iff.rfl ⟨fun h=>?_,fun⟨a',h8,h9⟩=>?_⟩
     ·rcases h with ⟨a',h8,h9⟩|h
      ·exact⟨a',List.mem_append.2 (.inl h8),h9⟩
      ·exact⟨b,List.mem_append.2 (.inr (List.mem_singleton.2 rfl)),h⟩
     ·rcases List.mem_append.1 h8 with h8|h8
      ·exact .inl ⟨a',h8,h9⟩
      ·rw[List.mem_singleton] at h8;subst h8;exact .inr h9
    ·simp only[id,seval,Qb,qb125];try rfl
   have h3:l=g.rs.length:=by simp only[decide_eq_false_iff_not] at h;omega
   subst h3;refine Sat.exit ?_;simp only[Qf,Qg,reduceIte];refine Qa fun kk hk=>?_;simp only[id,seval,Qb,e2,Zw];refine hk _ ?_;simp only[Qf,Qg];refine⟨(j+1,es,oa,oc),⟨h2,hB.congr fun x=>?_,hZ⟩,by simp only;omega,?_⟩
   ·simp only;rw[htk2,List.take_length,or_assoc];refine or_congr Iff.rfl ⟨fun h=>?_,fun⟨a',h8,h9⟩=>?_⟩
    ·rcases h with ⟨a',h8,h9⟩|h
     ·exact⟨a',List.mem_append.2 (.inl h8),h9⟩
     ·exact⟨a,List.mem_append.2 (.inr (List.mem_singleton.2 rfl)),h⟩
    ·rcases List.mem_append.1 h8 with h8|h8
     ·exact .inl ⟨a',h8,h9⟩
     ·rw[List.mem_singleton] at h8;subst h8;exact .inr h9
   ·simp only[id,seval,Qb,qb125];try rfl
  have h2:j=g.rs.length:=by simp only[decide_eq_false_iff_not] at h;omega
  subst h2;refine Sat.exit ?_;simp only[Qf,Qg,reduceIte];refine Qa fun kk hk=>?_;simp only[id,seval,Qb,e1,Zw];refine hk _ ?_;simp only[Qf,Qg];refine⟨(i+1,es,oa,oc),⟨h1,hB.congr fun x=>?_,hZ⟩,by simp only;omega,?_⟩
  ·simp only;rw[htk,List.take_length];refine⟨fun h=>?_,fun⟨g',h8,h9⟩=>?_⟩
   ·rcases h with ⟨g',h8,h9⟩|h
    ·exact⟨g',List.mem_append.2 (.inl h8),h9⟩
    ·exact⟨g,List.mem_append.2 (.inr (List.mem_singleton.2 rfl)),h⟩
   ·rcases List.mem_append.1 h8 with h8|h8
    ·exact .inl ⟨g',h8,h9⟩
    ·rw[List.mem_singleton] at h8;subst h8;exact .inr h9
  ·simp only[id,seval,Qb,qb125];try rfl
 have h1:i=gs.length:=by simp only[decide_eq_false_iff_not] at h;omega
 subst h1;rw[List.take_length] at hB;have hE:BestOf Evd.pr evB (MatC xs) es:=hB.congr fun x=>parts_mat hps ho x
 have hel:es.length≤262144:=by
  have h8:=best_le hE (la:=xs.map Res.from_) (fun x hx=>by
   obtain⟨p,hp,a,ha,b,hb,_,c,hc,_,_,_,hE⟩:=hx;have m1:a.from_∈xs.map Res.from_:=List.mem_map.2 ⟨a,(hp.sub a ha).1,rfl⟩;have m2:c.from_∈xs.map Res.from_:=List.mem_map.2 ⟨c,hc,rfl⟩;rw[hE.pr];rcases Int.le_total a.from_ c.from_ with h8|h8
   ·simp only[Int.min_eq_left h8,Int.max_eq_right h8];exact⟨m1,m2⟩
   ·simp only[Int.min_eq_right h8,Int.max_eq_left h8];exact⟨m2,m1⟩)
  rw[List.length_map] at h8;exact Nat.le_trans h8 (Nat.le_trans (Nat.mul_le_mul hl hl) (by decide))
 refine Sat.exit ?_;simp only[Qf,Qg,reduceIte];refine QQ [] 5 rfl ?_;(repeat refine Qc ?_);(refine Qa fun k hk=>?_;simp only[id,seval,Qb,Zw];refine hk _ ?_;clear hk k;try show Sat _ _ _ _ _);refine Sat.ret ?_;simp only[Tryz.results15,id,seval,Int.reduceToNat,Qb,qb124];exact .inr ⟨hb,oa,oc,es,⟨hE,hZ⟩,hel,rfl⟩
end

section
open Go.Sort Eng
def qb126:=And.intro @evr (And.intro @Qm (And.intro @Qv (And.intro @Qu (And.intro @Zm (And.intro @Zl (And.intro @Zk (And.intro @Qq (And.intro @Qj (And.intro @Xk (And.intro @ev_0 (And.intro @ev_1 (And.intro @ev_2 (And.intro @ev_3 (@evn))))))))))))))
def qb127:=And.intro @evr (And.intro @Qm (And.intro @Qv (And.intro @Qu (And.intro @Zm (And.intro @Zl (And.intro @Zk (And.intro @Qq (And.intro @Qj (And.intro @Xk (And.intro @ev_0 (And.intro @ev_1 (And.intro @ev_2 (And.intro @ev_3 (And.intro @evl (@evn)))))))))))))))
set_option maxHeartbeats 1000000 in
set_option maxRecDepth 100000 in
theorem diceEvC (cb:Nat):Contract (Frm.codes cb) Tryz.prog 26 [ptr cb] (fun r=>∃ e:Evd,(InA e.a∧InA e.b)∧e.ids.length≤3∧r=evAg e):=by
 refine Qi Tryz.func26 rfl (by kernel_rfl) ?_;simp only[Tryz.ntmps26,Qt,ptr];(repeat refine Qc ?_);(refine Qa fun k hk=>?_;simp only[id,seval,ptr,Qb,qb126]);intro b2;(refine hk _ ?_;clear hk k;try show Sat _ _ _ _ _);(repeat refine Qc ?_);(refine Qa fun k hk=>?_;simp only[id,seval,ptr,Qb,qb126]);refine Qd (Zf cb 3 (by omega) (by omega)) rfl (by rintro _ ⟨x,rfl,_⟩;exact Qh rfl) ?_;rintro r ⟨x,rfl,hx0,hx1⟩;simp only[id,seval,ptr,Qb,qb126];refine Qd (addrC cb) rfl plain_addrC ?_;rintro r ⟨a0,ha0,rfl⟩;simp only[id,seval,ptr,Qb,qb126];refine Qd (addrC cb) rfl plain_addrC ?_;rintro r ⟨b0,hb0,rfl⟩;simp only[id,seval,ptr,Qb,qb126];generalize IntKind.i64.wrap (1+x)=kd;intro b3;(refine hk _ ?_;clear hk k;try show Sat _ _ _ _ _);refine Sat.adoptBox 1 3 27 3 (QX #[]) rfl rfl ?_;simp only[id,seval,ptr,Qb,qb126];(repeat refine Qc ?_);(refine Qa fun k hk=>?_;simp only[id,seval,ptr,Qb,qb126];refine hk _ ?_;clear hk k;try show Sat _ _ _ _ _);(repeat refine Qc ?_);refine QT (ι:=Int) (fun z=>⟨56,[(3,.op 1 b3 0),(2,.op 0 b2 0),(0,.v (.pointer (some ⟨cb,0,none⟩)))],[.box b2 32 [.i .i64 0,.i .u32 0,.i .u32 0,.sl none 0 0 0 fun _ _=>.v undef],.box b3 32 [.i .i64 kd,.i .u32 a0,.i .u32 z,.os 2 none 0 0],.row none 27 0 0 3 (QX #[])]⟩) InA ?_ ?_
 ·refine Qe rfl (fun h=>?_) (fun h=>?_)
  ·(refine Qa fun k hk=>?_;simp only[id,seval,ptr,Qb,qb126]);refine hk _ ?_;simp only[Qf];refine⟨IntKind.u32.wrap (b0+1),wrapA _,?_⟩;simp only[id,seval,ptr,Qb,qb127]
  ·refine Sat.skip ?_;simp only[Qf];refine⟨b0,hb0,?_⟩;simp only[id,seval,ptr,Qb,qb127]
 rintro b1 hb1;simp only[Qf];(repeat refine Qc ?_);(refine Qa fun k hk=>?_;simp only[id,seval,ptr,Qb,qb126];refine hk _ ?_;clear hk k;try show Sat _ _ _ _ _);have hbb:InA (max a0 b1):=by unfold InA at *;omega
 have haa:InA (min a0 b1):=by unfold InA at *;omega
 generalize max a0 b1=bb at hbb ⊢;generalize min a0 b1=aa at haa ⊢;(repeat refine Qc ?_);(refine Qa fun k hk=>?_;simp only[id,seval,ptr,Qb,qb126]);refine Qd (Zf cb 5 (by omega) (by omega)) rfl (by rintro _ ⟨x,rfl,_⟩;exact Qh rfl) ?_;rintro r ⟨t0,rfl,_,_⟩;simp only[id,seval,ptr,Qb,qb126];(refine hk _ ?_;clear hk k;try show Sat _ _ _ _ _);(repeat refine Qc ?_);(refine Qa fun k hk=>?_;simp only[id,seval,ptr,Qb,qb126]);refine Qd (Zf cb 3 (by omega) (by omega)) rfl (by rintro _ ⟨x,rfl,_⟩;exact Qh rfl) ?_;rintro r ⟨v0,rfl,hv0,hv1⟩;obtain⟨v0,rfl⟩:=Int.eq_ofNat_of_zero_le hv0;simp only[id,seval,ptr,Qb,qb126];(refine hk _ ?_;clear hk k;try show Sat _ _ _ _ _);(repeat refine Qc ?_);refine Sat.block ?_
 refine Qo (ι:=Nat×Int×List Idn×Option Addr×Nat) (fun z=>⟨56,[(5,.i .i64 ((z.1:Int) - 1)),(4,.i .i64 z.2.1),(3,.op 1 b3 0),(2,.op 0 b2 0),(0,.v (.pointer (some ⟨cb,0,none⟩)))],
   [.box b2 32 [.i .i64 0,.i .u32 0,.i .u32 0,.sl none 0 0 0 fun _ _=>.v undef],.box b3 32 [.i .i64 kd,.i .u32 aa,.i .u32 bb,.os 2 z.2.2.2.1 z.2.2.1.length z.2.2.2.2],.row z.2.2.2.1 27 z.2.2.1.length z.2.2.2.2 3 (QX z.2.2.1.toArray)]⟩)
  (fun z=>z.1+z.2.2.1.length≤3) (fun z=>z.1) (v0+1,t0,[],none,0) (by simp only[List.length_nil];omega) (by
   simp only[id,seval,ptr,Qb,qb127];try exact⟨by omega,rfl⟩
   try (constructor<;>omega)
   try omega) ?_
 rintro⟨v,t,l,ra,rc⟩ hv;simp only at hv ⊢;(repeat refine Qc ?_);(refine Qa fun k hk=>?_;simp only[id,seval,ptr,Qb,qb126];refine hk _ ?_;clear hk k;try show Sat _ _ _ _ _);(repeat refine Qc ?_);refine Qe rfl (fun h=>?_) (fun h=>?_)
 ·have hv2:1≤v:=by simp only[decide_eq_true_eq] at h;omega
  have e1:IntKind.i64.wrap ((v:Int) - 1 - 1)=((v - 1:Nat):Int) - 1:=by rw[w64 (by omega)];omega
  refine Sat.skip ?_;simp only[Qf];(repeat refine Qc ?_);refine Sat.block ?_;(repeat refine Qc ?_);(refine Qa fun k hk=>?_;simp only[id,seval,ptr,Qb,qb126]);refine Qd (Zf cb 3 (by omega) (by omega)) rfl (by rintro _ ⟨x,rfl,_⟩;exact Qh rfl) ?_;rintro r ⟨x3,rfl,_,_⟩;simp only[id,seval,ptr,Qb,qb126];generalize IntKind.i64.wrap (t+IntKind.i64.wrap (1+x3))=t2;(refine hk _ ?_;clear hk k;try show Sat _ _ _ _ _);(refine Qa fun k hk=>?_;simp only[id,seval,ptr,Qb,qb126]);intro bs;refine⟨⟨by unfold maxLen;omega,by omega⟩,fun a2 c2=>hk _ ?_⟩;simp only[Qf,Qg];refine Qa fun k hk=>?_;simp only[id,seval,ptr,Qb,e1,qb126];refine hk _ ?_;simp only[Qf,Qg];refine⟨(v - 1,t2,l ++ [⟨0,0,t2⟩],a2,c2),by simp only[List.length_append,List.length_singleton];omega,by simp only;omega,?_⟩;simp only[List.length_append,List.length_singleton];simp only[id,seval,ptr,Qb,qb127];exact idn_app rfl
 ·refine Sat.exit ?_;simp only[Qf,Qg,reduceIte];refine XP 1 3 rfl rfl rfl ?_;simp only[id,seval,ptr,Qb,qb126];(repeat refine Qc ?_);(refine Qa fun k hk=>?_;simp only[id,seval,ptr,Qb,qb126];refine hk _ ?_;clear hk k;try show Sat _ _ _ _ _);refine Sat.ret ?_;simp only[Tryz.results26,evr,id,seval,ptr,Qm,Qv,Qu,Zm,Zl,Zk,List.append_nil,Int.toNat_zero,Nat.sub_self,Int.reduceToNat,Qb,Qq,Qj,Xk,ev_0,ev_1,ev_2,ev_3];exact⟨⟨kd,aa,bb,l,ra,rc⟩,⟨haa,hbb⟩,by show l.length≤3;omega,rfl⟩
end

section
open Go.Sort Eng
def qb128:=And.intro @evr (And.intro @QY (And.intro @Qm (And.intro @Qq (And.intro @Qv (And.intro @Qu (And.intro @Qj (@evn)))))))
def qb130:=And.intro @evr (And.intro @QY (And.intro @Qm (And.intro @Qq (And.intro @Qv (And.intro @Qu (And.intro @List.append_nil.{0} (And.intro @Int.toNat_zero (And.intro @Nat.sub_self (@Qj)))))))))
def qb129:=And.intro @evr (And.intro @QY (And.intro @Qm (And.intro @Qq (And.intro @Qv (And.intro @Qu (And.intro @Qj (And.intro @evl (@evn))))))))
set_option maxRecDepth 100000 in
theorem diceExclC (cb:Nat) (most:Nat) (hm:most≤100) :
  ContractN (Frm.codes cb) Tryz.prog 20 [ptr cb,.i .i64 most] (fun o=>∃ (a:Option Addr) (c:Nat) (es:List Exc),es.length≤most∧o=.row a 29 es.length c 8 (Zi es.toArray)):=by
 refine Zh Tryz.func20 rfl (by kernel_rfl) ?_;simp only[Tryz.ntmps20,Qt,ptr];(repeat refine Qc ?_);(refine Qa fun k hk=>?_;simp only[id,seval,ptr,Qb,qb128];refine hk _ ?_;clear hk k;try show Sat _ _ _ _ _);(repeat refine Qc ?_);(refine Qa fun k hk=>?_;simp only[id,seval,ptr,Qb,qb128];refine hk _ ?_;clear hk k;try show Sat _ _ _ _ _);have e1:IntKind.i64.wrap ((most:Int)+1)=(most:Int)+1:=w64 (by omega);(repeat refine Qc ?_);(refine Qa fun k hk=>?_;simp only[id,seval,ptr,Qb,qb128]);refine Qd (Zf cb ((most:Int)+1) (by omega) (by omega)) (by simp only[id,seval,ptr,Qb,e1,qb128]) (by rintro _ ⟨x,rfl,_⟩;exact Qh rfl) ?_;rintro r ⟨x,rfl,hx0,hx1⟩;obtain⟨k0,rfl⟩:=Int.eq_ofNat_of_zero_le hx0;simp only[id,seval,ptr,Qb,qb128];(refine hk _ ?_;clear hk k;try show Sat _ _ _ _ _);refine Q1 5 29 8 (Zi #[]) rfl ?_;simp only[id,seval,ptr,Qb,qb128];(repeat refine Qc ?_);refine Sat.block ?_;refine Qo (ι:=Nat×Option Addr×Nat×List Exc) (fun z=>⟨33,[(6,.i .i64 z.1),(5,.os 0 z.2.1 z.2.2.2.length z.2.2.1),(0,.v (.pointer (some ⟨cb,0,none⟩)))],[.row z.2.1 29 z.2.2.2.length z.2.2.1 8 (Zi z.2.2.2.toArray)]⟩)
  (fun z=>z.2.2.2.length+z.1≤most) (fun z=>z.1) (k0,none,0,[]) (by simp only[List.length_nil];omega) (by simp only[id,seval,ptr,Qb,qb129];try rfl) ?_
 rintro⟨m,a,c,es⟩ hm2;simp only at hm2 ⊢;(repeat refine Qc ?_);(refine Qa fun k hk=>?_;simp only[id,seval,ptr,Qb,qb128];refine hk _ ?_;clear hk k;try show Sat _ _ _ _ _);(repeat refine Qc ?_);refine Qe rfl (fun h=>?_) (fun h=>?_)
 ·have h1:0<m:=by simp only[decide_eq_true_eq] at h;omega
  have e2:IntKind.i64.wrap ((m:Int) - 1)=((m - 1:Nat):Int):=by rw[w64 (by omega)];omega
  refine Sat.skip ?_;simp only[Qf];(repeat refine Qc ?_);refine Sat.block ?_;(repeat refine Qc ?_);(refine Qa fun k hk=>?_;simp only[id,seval,ptr,Qb,qb128]);refine Q2 (diceEvC cb) rfl rfl ?_;rintro r ⟨e,he1,he2,rfl⟩;simp only[evAg,Evd.cs,id,seval,ptr,Qb,qb130];intro b7;(refine hk _ ?_;clear hk k;try show Sat _ _ _ _ _);refine Qs [.row a 29 es.length c 8 (Zi es.toArray)] 7 rfl ?_;simp only[List.length_cons,List.length_nil,Nat.reduceAdd];(repeat refine Qc ?_);(refine Qp (.keep [0,1,3,5,8,2,4] [6,7,9,10] (.one 6 (.free 7 (.one 9 (.one 10 (.one 11 (.one 12 (.one 13 (.one 14 .done))))))))) (by kernel_rfl) (by kernel_rfl) (fun _ _ h=>h) fun k hk=>?_;simp only[WOT,List.map_cons,List.map_nil,List.getD_cons_zero,List.getD_cons_succ];simp only[id,seval,ptr,Qb,WOT,qb128]);refine Qd (Zf cb 9 (by decide) (by decide)) rfl (by rintro _ ⟨x,rfl,_⟩;exact Qh rfl) ?_;rintro r ⟨x1,rfl,_,_⟩;simp only[id,seval,ptr,Qb,qb128];try refine⟨rfl,rfl,?_⟩
  refine Qd (Zf cb 9 (by decide) (by decide)) rfl (by rintro _ ⟨x,rfl,_⟩;exact Qh rfl) ?_;rintro r ⟨x2,rfl,_,_⟩;simp only[id,seval,ptr,Qb,qb128];try refine⟨rfl,?_⟩
  refine fun bz=>⟨⟨by unfold maxLen;omega,by omega⟩,fun a2 c2=>hk _ ?_⟩;clear hk k;simp only[Qf,Qg];refine Qa fun k hk=>?_;simp only[id,seval,ptr,Qb,e2,qb128];refine hk _ ?_;simp only[Qf,Qg];refine⟨(m - 1,a2,c2,es ++ [⟨e.a,e.b,⟨0,0,x1⟩,⟨0,0,x2⟩⟩]),by simp only[List.length_append,List.length_singleton];omega,by simp only;omega,?_⟩;simp only[List.length_append,List.length_singleton];simp only[id,seval,ptr,Qb,qb129];exact exc_app rfl
 refine Sat.exit ?_;simp only[Qf,Qg,reduceIte];(repeat refine Qc ?_);(refine Qa fun k hk=>?_;simp only[id,seval,ptr,Qb,qb128];refine hk _ ?_;clear hk k;try show Sat _ _ _ _ _);refine Sat.ret ?_;simp only[Tryz.results20,id,seval,ptr,Qb,retN,retNK,newRow,qb130];exact⟨⟨rfl,rfl,rfl⟩,a,c,es,by omega,rfl⟩
end

section
open Eng Go.Sort
theorem asc_ins {r:Res}:∀ {l:List Res},Asc l→∃ m,Asc m∧∀ s,s∈m ↔ s=r∨s∈l
 | [],_=>⟨[r],List.pairwise_singleton _ _,fun s=>by simp⟩
 | x :: l,h=>by
  obtain⟨h1,h2⟩:=List.pairwise_cons.1 h;rcases pthLt_total r x with h3|h3|h3
  ·refine⟨r :: x :: l,List.pairwise_cons.2 ⟨fun y hy=>?_,h⟩,fun s=>by simp⟩;rcases List.mem_cons.1 hy with rfl|hy
   ·exact h3
   ·exact pthLt_trans _ _ _ h3 (h1 y hy)
  ·subst h3;exact⟨r :: l,h,fun s=>⟨.inr,fun h=>h.elim (fun e=>by rw[e];exact List.mem_cons_self) id⟩⟩
  ·obtain⟨m,hm,hs⟩:=asc_ins (r:=r) h2;refine⟨x :: m,List.pairwise_cons.2 ⟨fun y hy=>?_,hm⟩,fun s=>?_⟩
   ·rcases (hs y).1 hy with rfl|hy
    ·exact h3
    ·exact h1 y hy
   ·rw[List.mem_cons,List.mem_cons,hs];constructor
    ·rintro (h|h|h)
     ·exact .inr (.inl h)
     ·exact .inl h
     ·exact .inr (.inr h)
    ·rintro (h|h|h)
     ·exact .inr (.inl h)
     ·exact .inl h
     ·exact .inr (.inr h)
theorem ordOf_ex:∀ xs:List Res,∃ ys,OrdOf xs ys
 | []=>⟨[],.nil,fun r=>by simp⟩
 | x :: xs=>by
  obtain⟨ys,h1,h2⟩:=ordOf_ex xs;by_cases hv:QH x=true
  ·obtain⟨m,hm,hs⟩:=asc_ins (r:=x) h1;refine⟨m,hm,fun r=>?_⟩;rw[hs,h2,List.mem_cons];constructor
   ·rintro (h|h)
    ·exact⟨.inl h,by rw[h];exact hv⟩
    ·exact⟨.inr h.1,h.2⟩
   ·rintro⟨h|h,h3⟩
    ·exact .inl h
    ·exact .inr ⟨h,h3⟩
  ·refine⟨ys,h1,fun r=>?_⟩;rw[h2,List.mem_cons];constructor
   ·rintro h;exact⟨.inr h.1,h.2⟩
   ·rintro⟨h|h,h3⟩
    ·rw[h] at h3;exact absurd h3 hv
    ·exact⟨h,h3⟩
def Calm (xs:List Res):Prop:=∀ a∈xs,∀ b∈xs,ZH a b=false
theorem cuts_whole {zs:List Res} (hn:0<zs.length) (h:Calm zs):cutsOf zs [(0,zs.length)]:=by
 refine .inr ⟨[],0,.nil,hn,fun k h1 h2 ⟨i,h3,h4,h5⟩=>?_,rfl⟩
 have m:∀ {q:Nat},q<zs.length→zs.toArray[q]!∈zs:=fun {q} hq=>by
  rw[show zs.toArray[q]! = zs[q] by simp [getElem!_def,hq]];exact List.getElem_mem hq
 rw[h _ (m (by omega)) _ (m h2)] at h5;cases h5
theorem part_all {xs:List Res} (hx:Calm xs) {r:Res} (hr:r∈xs) (hv:QH r=true):∃ p,IsPart xs p∧∀ s∈xs,QH s=true→s.tre=r.tre→s∈p:=by
 obtain⟨ys,hys⟩:=ordOf_ex xs
 have hmem:∀ s,s∈ofT ys r.tre ↔ (s∈xs∧QH s=true)∧s.tre=r.tre:=fun s=>by
  unfold ofT;rw[List.mem_filter,hys.2];unfold isTre;rw[decide_eq_true_eq]
 have hc:Calm (ofT ys r.tre):=fun a ha b hb=>hx a ((hmem a).1 ha).1.1 b ((hmem b).1 hb).1.1;have hpos:0<(ofT ys r.tre).length:=List.length_pos_of_mem ((hmem r).2 ⟨⟨hr,hv⟩,rfl⟩);refine⟨ofT ys r.tre,⟨r.tre,ys,_,(0,(ofT ys r.tre).length),hys,cuts_whole hpos hc,List.mem_singleton.2 rfl,?_⟩,fun s h1 h2 h3=>(hmem s).2 ⟨⟨h1,h2⟩,h3⟩⟩;unfold cutL;simp
theorem exc_calm {xs:List Res} (hx:Calm xs) {a b:Res} (ha:a∈xs) (hb:b∈xs) (ht:togR a b=true) (hlt:a.from_<b.from_):ExcC xs (XF a b):=by
 obtain⟨h1,h2,h3,wa,wb⟩:=togR_iff.1 ht;obtain⟨p,hp,hm⟩:=part_all hx ha (ZW wa);exact⟨p,hp,a,hm a ha (ZW wa) rfl,b,hm b hb (ZW wb) h3.symm,wa,wb,h2,⟨h1,hlt⟩,rfl⟩
end

section
open Eng Go.Sort
def rplR (n flow ttl fr:Int):Res:=⟨0,0,n,10 * n,9,17,flow,ttl,true,false,10 * n+1,fr,1,0,0,0,0⟩
def awL:List Res:=[rplR 0 0 1 167772161,rplR 1 0 2 167772418,rplR 2 1 1 167772417]
theorem awL_valid:awL.any (fun x=>!QH x)=false:=by decide +kernel
theorem awL_calm:Calm awL:=by unfold Calm;decide +kernel
theorem awL_one:OneEach awL:=by unfold OneEach;decide +kernel
theorem awL_rg:∀ r∈awL,RgR r:=by unfold RgR;decide +kernel
theorem awL_exc:∀ a∈awL,∀ b∈awL,a.flow=b.flow→a.ttl≠b.ttl→a.from_<b.from_→XF a b=XF (rplR 0 0 1 167772161) (rplR 1 0 2 167772418):=by decide +kernel
theorem awL_fol:∀ a∈awL,∀ b∈awL,folR a b=true→a=rplR 0 0 1 167772161∧b=rplR 1 0 2 167772418:=by decide +kernel
theorem awL_c:∀ c∈awL,c.from_∈msV 167772418→c.from_≠167772161→c=rplR 2 1 1 167772417:=by decide +kernel
theorem awL_f01:folR (rplR 0 0 1 167772161) (rplR 1 0 2 167772418)=true:=by decide +kernel
theorem awL_m:(167772417:Int)∈msV 167772418∧(167772417:Int)≠167772161∧Xu (rplR 2 1 1 167772417)=true:=by decide +kernel
theorem awL_pairs {es:List Exc} (h:ExcOf awL es):es=[XF (rplR 0 0 1 167772161) (rplR 1 0 2 167772418)]:=by
 have hC:∀ x,ExcC awL x→x=XF (rplR 0 0 1 167772161) (rplR 1 0 2 167772418):=fun x ⟨p,hp,a,ha,b,hb,_,_,hf,⟨h1,h2⟩,e⟩=>e.trans (awL_exc a (hp.sub a ha).1 b (hp.sub b hb).1 hf h1 h2);obtain⟨x,hx,_⟩:=h.all _ (exc_calm awL_calm (a:=rplR 0 0 1 167772161) (b:=rplR 1 0 2 167772418) (by simp [awL]) (by simp [awL]) (folR_iff.1 awL_f01).1 (by decide))
 match es,h,hx with
 | [y],h,hx=>rw[hC y (h.each y (by simp)).1]
 | y :: z :: l,h,hx=>
  have h1:=(List.pairwise_cons.1 h.asc).1 z (by simp);rw[hC y (h.each y (by simp)).1,hC z (h.each z (by simp)).1,Zp] at h1;cases h1
theorem awL_mat {e:Evd} (h:MatC awL e):MatE ⟨0,0,0⟩ ⟨0,0,1⟩ ⟨0,0,2⟩ 167772161 167772417 e:=by
 obtain⟨p,hp,a,ha,b,hb,h1,c,hc,wc,hm,hn,he⟩:=h;obtain⟨rfl,rfl⟩:=awL_fol a (hp.sub a ha).1 b (hp.sub b hb).1 h1;obtain rfl:=awL_c c hc hm hn;exact he
theorem awL_ids:IdsOf [⟨0,0,0⟩,⟨0,0,1⟩,⟨0,0,2⟩] [⟨0,0,0⟩,⟨0,0,1⟩,⟨0,0,2⟩]:=⟨by decide +kernel,fun d=>Iff.rfl⟩
theorem awL_mates {es:List Evd} (h:MatOf awL es):es.length=1∧MatC awL (es.getD 0 default)∧(es.getD 0 default).a=167772161∧(es.getD 0 default).b=167772417∧(es.getD 0 default).ids.length=3:=by
 obtain⟨p,hp,hm⟩:=part_all awL_calm (r:=rplR 0 0 1 167772161) (by simp [awL]) (by decide +kernel);have hE:MatE ⟨0,0,0⟩ ⟨0,0,1⟩ ⟨0,0,2⟩ 167772161 167772417 ⟨2,167772161,167772417,[⟨0,0,0⟩,⟨0,0,1⟩,⟨0,0,2⟩],none,0⟩:=⟨rfl,rfl,rfl,awL_ids⟩
 have hC:MatC awL ⟨2,167772161,167772417,[⟨0,0,0⟩,⟨0,0,1⟩,⟨0,0,2⟩],none,0⟩:=
  ⟨p,hp,rplR 0 0 1 167772161,hm _ (by simp [awL]) (by decide +kernel) rfl,rplR 1 0 2 167772418,hm _ (by simp [awL]) (by decide +kernel) rfl,awL_f01,rplR 2 1 1 167772417,by simp [awL],awL_m.2.2,awL_m.1,awL_m.2.1,hE⟩
 obtain⟨x,hx,_⟩:=h.best.all _ hC
 have key:∀ e∈es,MatC awL e∧e.a=167772161∧e.b=167772417∧e.ids.length=3:=fun e he=>by
  have h1:=(h.best.each e he).1;obtain⟨e1,e2,e3,e4⟩:=awL_mat h1;refine⟨h1,e2,e3,?_⟩;rw[e4.unique awL_ids];rfl
 match es,key,h,hx with
 | [y],key,h,hx=>exact⟨rfl,key y (by simp)⟩
 | y :: z :: l,key,h,hx=>
  have h1:=(List.pairwise_cons.1 h.best.asc).1 z (by simp);obtain⟨_,a1,b1,_⟩:=key y (by simp);obtain⟨_,a2,b2,_⟩:=key z (by simp);have e:Evd.pr y=Evd.pr z:=by unfold Evd.pr;rw[a1,a2,b1,b2]
  rw[e,Zp] at h1;cases h1
end

section
open Go.Sort Eng
theorem resAg_ok (x:Res):∀ R w,(Q0 x).ok R w:=fun R w=>ok_aggL (l:=Res.cs x) rfl R w
def qb131:=And.intro @evr (And.intro @Z6 (And.intro @QY (And.intro @Qm (And.intro @Qu (And.intro @Zm (And.intro @Zl (And.intro @Zk (And.intro @Qv (And.intro @u32_one (And.intro @Qq (And.intro @Qj (And.intro @tl_get (And.intro @tl_set (@evn))))))))))))))
def qb132:=And.intro @evr (And.intro @Z6 (And.intro @QY (And.intro @Qm (And.intro @Qu (And.intro @Zm (And.intro @Zl (And.intro @Zk (And.intro @Qv (And.intro @u32_one (And.intro @List.append_nil.{0} (And.intro @Int.toNat_zero (And.intro @Nat.sub_self (And.intro @Qq (And.intro @Qj (And.intro @tl_get (@tl_set))))))))))))))))
set_option maxRecDepth 100000 in
theorem replyC (F:Frm) (n fl tt fr:Int) (h1:0≤n) (h2:n≤1000):Contract F Tryz.prog 37 [.i .i64 n,.i .i64 fl,.i .i64 tt,.i .u32 fr] (fun r=>r=Q0 (rplR n fl tt fr)):=by
 have w1:IntKind.i64.wrap (10 * n)=10 * n:=w64 (by omega);have w2:IntKind.i64.wrap (10 * n+1)=10 * n+1:=w64 (by omega);refine Qi Tryz.func37 rfl (by kernel_rfl) ?_;simp only[Tryz.ntmps37,Qt];(repeat refine Qc ?_);(refine Qa fun k hk=>?_;simp only[id,seval,Qb,qb131]);intro b8;(refine hk _ ?_;clear hk k;try show Sat _ _ _ _ _);(repeat refine Qc ?_);refine Qa fun k hk=>?_;simp only[id,seval,Qb,w1,w2,qb131];(refine hk _ ?_;clear hk k;try show Sat _ _ _ _ _);refine Sat.rebox 0 (Res.cs (rplR n fl tt fr)) rfl ⟨QE _,QE _,QE _,QE _,QE _,QE _,QE _,QE _,sim_tt,QE _,QE _,QE _,QE _,QE _,QE _,QE _,QE _,trivial⟩ ?_;simp only[Res.cs,rplR,List.set_cons_zero];refine Sat.ret ?_;simp only[Tryz.results37,id,seval,Int.reduceToNat,Qb,qb132];rfl
def qb133:=And.intro @evr (And.intro @Z6 (And.intro @QY (And.intro @Qm (And.intro @Qu (And.intro @Zm (And.intro @Zl (And.intro @Zk (And.intro @Qv (And.intro @u32_one (And.intro @Qq (And.intro @Qj (And.intro @tl_get (And.intro @tl_set (And.intro @evl (@evn)))))))))))))))
set_option maxHeartbeats 1000000 in
set_option maxRecDepth 100000 in
theorem awakeC (F:Frm):Contract F Tryz.prog 7 [] (fun r=>r=.b true):=by
 refine Qi Tryz.func7 rfl (by kernel_rfl) ?_;simp only[Tryz.ntmps7,Qt];(repeat refine Qc ?_);(refine Qa fun k hk=>?_;simp only[id,seval,Qb,qb131];refine hk _ ?_;clear hk k;try show Sat _ _ _ _ _);(repeat refine Qc ?_);(refine Qa fun k hk=>?_;simp only[id,seval,Qb,qb131];refine hk _ ?_;clear hk k;try show Sat _ _ _ _ _);(repeat refine Qc ?_);(refine Qa fun k hk=>?_;simp only[id,seval,Qb,qb131]);refine Qd (replyC F 0 0 1 167772161 (by decide) (by decide)) rfl (by rintro _ rfl;exact resAg_ok _) ?_;rintro _ rfl;simp only[Q0,Res.cs,rplR,id,seval,Int.reduceToNat,Qb,qb132];refine Qd (replyC F 1 0 2 167772418 (by decide) (by decide)) rfl (by rintro _ rfl;exact resAg_ok _) ?_;rintro _ rfl;simp only[Q0,Res.cs,rplR,id,seval,Int.reduceToNat,Qb,qb132];refine Qd (replyC F 2 1 1 167772417 (by decide) (by decide)) rfl (by rintro _ rfl;exact resAg_ok _) ?_;rintro _ rfl;simp only[Q0,Res.cs,rplR,id,seval,Int.reduceToNat,Qb,qb132];intro bs;(refine hk _ ?_;clear hk k;try show Sat _ _ _ _ _)
 refine Sat.le (st':=⟨105,[(4,.os 0 (some ⟨bs,0,none⟩) 3 3),(3,.i .u32 167772417),(2,.i .u32 167772418),(1,.i .u32 167772161)],[.row (some ⟨bs,0,none⟩) 62 3 3 17 (Qk awL.toArray)]⟩) ?_ (by
  simp only[id,seval,Qb,qb133];intro i j hi hj;have hj':j=0∨j=1∨j=2∨j=3∨j=4∨j=5∨j=6∨j=7∨j=8∨j=9∨j=10∨j=11∨j=12∨j=13∨j=14∨j=15∨j=16:=by omega
  rcases (show i=0∨i=1∨i=2 by omega) with rfl|rfl|rfl<;>rcases hj' with rfl|rfl|rfl|rfl|rfl|rfl|rfl|rfl|rfl|rfl|rfl|rfl|rfl|rfl|rfl|rfl|rfl<;>rfl)
 refine QQ [] 4 rfl ?_;(repeat refine Qc ?_);(refine Qa fun k hk=>?_;simp only[id,seval,Qb,qb131]);refine Q2 (exPairsC F (some ⟨bs,0,none⟩) 3 awL (by decide) awL_rg) rfl rfl ?_;rintro r (⟨hbad,_⟩|⟨_,a2,c2,es,hes,hel,rfl⟩)
 ·rw[awL_valid] at hbad;cases hbad
 obtain rfl:=awL_pairs hes;simp only[id,seval,Qb,qb131];(refine hk _ ?_;clear hk k;try show Sat _ _ _ _ _);(repeat refine Qc ?_);(refine Qa fun k hk=>?_;simp only[id,seval,Qb,qb131]);refine Q2 (exMatesC F (some ⟨bs,0,none⟩) 3 awL (by decide) awL_rg) rfl rfl ?_;rintro r (⟨hbad,_⟩|⟨_,a3,c3,fs,hfs,hfl,rfl⟩)
 ·rw[awL_valid] at hbad;cases hbad
 obtain⟨y,rfl,hC,hya,hyb,hyl⟩:∃ y,fs=[y]∧MatC awL y∧y.a=167772161∧y.b=167772417∧y.ids.length=3:=by
  obtain⟨h1,h2,h3,h4,h5⟩:=awL_mates hfs
  match fs,h1,h2,h3,h4,h5 with
  | [y],_,h2,h3,h4,h5=>exact⟨y,rfl,h2,h3,h4,h5⟩
 simp only[id,seval,Qb,qb131];(refine hk _ ?_;clear hk k;try show Sat _ _ _ _ _)
 have hc1:Contract Frm.nil Tryz.prog 21 [.sl (some ⟨bs,0,none⟩) 3 3 17 (Qk awL.toArray),.agg 8 fun j=>Zi [XF (rplR 0 0 1 167772161) (rplR 1 0 2 167772418)].toArray 0 j] (fun r=>r=.b true):=by
  have h9:=exHoldsC Frm.nil (some ⟨bs,0,none⟩) 3 awL (XF (rplR 0 0 1 167772161) (rplR 1 0 2 167772418)) (by decide);have h8:Zs awL (XF (rplR 0 0 1 167772161) (rplR 1 0 2 167772418))=true:=exc_holds awL_one (hes.each _ (by simp)).1;rw[h8] at h9;exact h9
 have hc2:Contract Frm.nil Tryz.prog 28 [.sl (some ⟨bs,0,none⟩) 3 3 17 (Qk awL.toArray),.agg 4 fun j=>Xi [y] 0 j] (fun r=>r=.b true):=by
  have h9:=holdsMateC Frm.nil (some ⟨bs,0,none⟩) 3 awL y (by decide) (by omega);rw[mat_holds awL_one hC] at h9;exact h9
 have hc3:Contract Frm.nil Tryz.prog 30 [.agg 17 fun j=>Qk awL.toArray 0 j,.agg 17 fun j=>Qk awL.toArray 1 j] (fun r=>r=.b true):=by
  have h9:=folC Frm.nil (rplR 0 0 1 167772161) (rplR 1 0 2 167772418);rw[awL_f01] at h9;exact h9
 obtain⟨rd1,hrd1⟩:∃ rd,rd=Zi [XF (rplR 0 0 1 167772161) (rplR 1 0 2 167772418)].toArray:=⟨_,rfl⟩;have q10:rd1 0 0=.i .u32 167772161:=by rw[hrd1];rfl
 have q11:rd1 0 1=.i .u32 167772418:=by rw[hrd1];rfl
 obtain⟨rd2,hrd2⟩:∃ rd,rd=Xi [y]:=⟨_,rfl⟩;have q21:rd2 0 1=.i .u32 167772161:=by rw[hrd2,← hya];rfl
 have q22:rd2 0 2=.i .u32 167772417:=by rw[hrd2,← hyb];rfl
 have q23:rd2 0 3=.sl y.ad 3 y.cap 3 (QX y.ids.toArray):=by
  have h8:Xi [y] 0 3=.sl y.ad y.ids.length y.cap 3 (QX y.ids.toArray):=rfl;rw[hrd2,h8,hyl]
 rw[← hrd1] at hc1;rw[← hrd2] at hc2;simp only[← hrd1,← hrd2,List.length_singleton];refine Sat.le (st':=⟨105,[(8,.i .i64 0),(7,.sl a3 1 c3 4 rd2),(6,.i .i64 0),(5,.sl a2 1 c2 8 rd1),(4,.sl (some ⟨bs,0,none⟩) 3 3 17 (Qk awL.toArray)),(3,.i .u32 167772417),(2,.i .u32 167772418),(1,.i .u32 167772161)],[]⟩) ?_ (by simp only[id,seval,Qb,qb133]);(repeat refine Qc ?_);refine Sat.at ⟨105,[(0,.b true)],[]⟩ ?_ ?_
 ·simp only[List.append_eq,List.cons_append,List.nil_append];refine Qr (by kernel_rfl) (by kernel_rfl) fun k hk=>?_;simp only[id,seval,Qb,q10,q11,q21,q22,q23,qb131];refine ZV hc1 rfl (Qh rfl) ?_;simp only[id,seval,Qb,q10,q11,q21,q22,q23,qb131];refine ZV hc2 rfl (Qh rfl) ?_;simp only[id,seval,Qb,q10,q11,q21,q22,q23,qb131];refine ZV hc3 rfl (Qh rfl) ?_;simp only[id,seval,Qb,q10,q11,q21,q22,q23,qb131];refine hk _ ?_;simp only[Qf];simp only[id,seval,Qb,qb133]
 simp only[Qf,Qg];refine Sat.ret ?_;simp only[Tryz.results7,id,seval,Int.reduceToNat,Qb,qb132]
end

section
open Go.Sort Eng
def qb134:=And.intro @evr (And.intro @Qm (And.intro @Qv (And.intro @Qu (And.intro @Zm (And.intro @Zl (And.intro @Zk (And.intro @Qq (And.intro @Qj (And.intro @Xk (@evn))))))))))
def qb136:=And.intro @evr (And.intro @Qm (And.intro @Qv (And.intro @Qu (And.intro @Zm (And.intro @Zl (And.intro @Zk (And.intro @List.append_nil.{0} (And.intro @Int.toNat_zero (And.intro @Nat.sub_self (And.intro @Qq (And.intro @Qj (@Xk))))))))))))
def qb135:=And.intro @evr (And.intro @Qm (And.intro @Qv (And.intro @Qu (And.intro @Zm (And.intro @Zl (And.intro @Zk (And.intro @Qq (And.intro @Qj (And.intro @Xk (And.intro @evl (@evn)))))))))))
set_option maxRecDepth 100000 in
theorem diceIdC (cb:Nat) (ad:Option Addr) (cap:Nat) (xs:List Res) (hl:xs.length≤1000) :
  Contract (Frm.codes cb) Tryz.prog 19 [ptr cb,.sl ad xs.length cap 17 (Qk xs.toArray)] (fun r=>∃ d:Idn,r=idnAg d):=by
 refine Qi Tryz.func19 rfl (by kernel_rfl) ?_;simp only[Tryz.ntmps19,Qt,ptr];(repeat refine Qc ?_);(refine Qa fun k hk=>?_;simp only[id,seval,ptr,Qb,Z7,qb134]);intro b4;(refine hk _ ?_;clear hk k;try show Sat _ _ _ _ _);(repeat refine Qc ?_);refine Zg (ι:=Bool) (fun q=>⟨27,[(11,.b q),(4,.op 0 b4 0),(0,.v (.pointer (some ⟨cb,0,none⟩))),(1,.sl ad xs.length cap 17 (Qk xs.toArray))],[.box b4 27 [.i .i64 0,.i .i64 0,.i .i64 0]]⟩)
  (fun q=>q=false→0<xs.length) (fun hrest=>?_) ?_
 ·(refine Qa fun k hk=>?_;simp only[id,seval,ptr,Qb,Z7,qb134]);refine⟨fun g1=>?_,fun g1=>?_⟩
  ·refine hk _ ?_;simp only[Qf];refine (hrest true (fun h=>by cases h)).le ?_;simp only[id,seval,ptr,Qb,Z7,qb135]
  ·refine Qd (boolC cb 6 (by decide) (by decide)) rfl Xd ?_;rintro r ⟨q,rfl⟩;simp only[id,seval,ptr,Qb,Z7,qb134];refine hk _ ?_;simp only[Qf];refine (hrest q (fun _=>by rw[beq_eq_false_iff_ne] at g1;omega)).le ?_;simp only[id,seval,ptr,Qb,Z7,qb135]
 rintro q hq;(repeat refine Qc ?_);refine Qe rfl (fun h=>?_) (fun h=>?_)
 ·(repeat refine Qc ?_);(refine Qa fun k hk=>?_;simp only[id,seval,ptr,Qb,Z7,qb134]);refine Qd (Zf cb 2 (by omega) (by omega)) rfl (by rintro _ ⟨x,rfl,_⟩;exact Qh rfl) ?_;rintro r ⟨x,rfl,_,_⟩;simp only[id,seval,ptr,Qb,Z7,qb134];refine Qd (Zf cb 2 (by omega) (by omega)) rfl (by rintro _ ⟨x,rfl,_⟩;exact Qh rfl) ?_;rintro r ⟨y,rfl,_,_⟩;simp only[id,seval,ptr,Qb,Z7,qb134];refine Qd (Zf cb 5 (by omega) (by omega)) rfl (by rintro _ ⟨x,rfl,_⟩;exact Qh rfl) ?_;rintro r ⟨z,rfl,_,_⟩;simp only[id,seval,ptr,Qb,Z7,qb134];(refine hk _ ?_;clear hk k;try show Sat _ _ _ _ _);refine Sat.ret ?_;simp only[Tryz.results19,id,seval,ptr,Int.reduceToNat,Qb,Z7,qb136];exact⟨⟨x,y,z⟩,rfl⟩
 have hpos:=hq h;refine Sat.skip ?_;simp only[Qf];(repeat refine Qc ?_);(refine Qa fun k hk=>?_;simp only[id,seval,ptr,Qb,Z7,qb134]);refine Qd (Zf cb xs.length (by omega) (by omega)) (by simp only[id,seval,ptr,Qb,Z7,qb134]) (by rintro _ ⟨x,rfl,_⟩;exact Qh rfl) ?_;rintro r ⟨x,rfl,hx0,hx1⟩;obtain⟨i,rfl⟩:=Int.eq_ofNat_of_zero_le hx0;have hi:i<xs.length:=by omega
 simp only[id,seval,ptr,Qb,Z7,qb134];refine⟨by omega,?_⟩;refine Qd (identG (Frm.codes cb) xs.toArray[i]!) rfl (by rintro _ rfl;intro R w q hq;rcases (show q=0∨q=1∨q=2 by omega) with rfl|rfl|rfl<;>trivial) ?_;rintro _ rfl;simp only[id,seval,ptr,Qb,Z7,qb134];(refine hk _ ?_;clear hk k;try show Sat _ _ _ _ _);refine Sat.ret ?_;simp only[Tryz.results19,id,seval,ptr,Int.reduceToNat,Qb,Z7,qb136];exact⟨(xs.toArray[i]!).idn,rfl⟩
set_option maxRecDepth 100000 in
theorem diceIdsC (cb:Nat) (ad:Option Addr) (cap:Nat) (xs:List Res) (most:Nat) (hl:xs.length≤1000) (hm:most≤100) :
  ContractN (Frm.codes cb) Tryz.prog 27 [ptr cb,.sl ad xs.length cap 17 (Qk xs.toArray),.i .i64 most] (fun o=>∃ (a:Option Addr) (c:Nat) (ids:List Idn),ids.length≤most∧o=.row a 27 ids.length c 3 (QX ids.toArray)):=by
 refine Zh Tryz.func27 rfl (by kernel_rfl) ?_;simp only[Tryz.ntmps27,Qt,ptr];(repeat refine Qc ?_);(refine Qa fun k hk=>?_;simp only[id,seval,ptr,Qb,Z7,qb134];refine hk _ ?_;clear hk k;try show Sat _ _ _ _ _);(repeat refine Qc ?_);(refine Qa fun k hk=>?_;simp only[id,seval,ptr,Qb,Z7,qb134];refine hk _ ?_;clear hk k;try show Sat _ _ _ _ _);have e1:IntKind.i64.wrap ((most:Int)+1)=(most:Int)+1:=w64 (by omega);(repeat refine Qc ?_);(refine Qa fun k hk=>?_;simp only[id,seval,ptr,Qb,Z7,qb134]);refine Qd (Zf cb ((most:Int)+1) (by omega) (by omega)) (by simp only[id,seval,ptr,Qb,Z7,e1,qb134]) (by rintro _ ⟨x,rfl,_⟩;exact Qh rfl) ?_;rintro r ⟨x,rfl,hx0,hx1⟩;obtain⟨k0,rfl⟩:=Int.eq_ofNat_of_zero_le hx0;simp only[id,seval,ptr,Qb,Z7,qb134];(refine hk _ ?_;clear hk k;try show Sat _ _ _ _ _);refine Q1 7 27 3 (QX #[]) rfl ?_;simp only[id,seval,ptr,Qb,Z7,qb134];(repeat refine Qc ?_);refine Sat.block ?_;refine Qo (ι:=Nat×Option Addr×Nat×List Idn) (fun z=>⟨24,[(8,.i .i64 z.1),(7,.os 0 z.2.1 z.2.2.2.length z.2.2.1),(0,.v (.pointer (some ⟨cb,0,none⟩))),(1,.sl ad xs.length cap 17 (Qk xs.toArray))],[.row z.2.1 27 z.2.2.2.length z.2.2.1 3 (QX z.2.2.2.toArray)]⟩)
  (fun z=>z.2.2.2.length+z.1≤most) (fun z=>z.1) (k0,none,0,[]) (by simp only[List.length_nil];omega) (by simp only[id,seval,ptr,Qb,Z7,qb135];try rfl) ?_
 rintro⟨m,a,c,ids⟩ hm2;simp only at hm2 ⊢;(repeat refine Qc ?_);(refine Qa fun k hk=>?_;simp only[id,seval,ptr,Qb,Z7,qb134];refine hk _ ?_;clear hk k;try show Sat _ _ _ _ _);(repeat refine Qc ?_);refine Qe rfl (fun h=>?_) (fun h=>?_)
 ·have h1:0<m:=by simp only[decide_eq_true_eq] at h;omega
  have e2:IntKind.i64.wrap ((m:Int) - 1)=((m - 1:Nat):Int):=by rw[w64 (by omega)];omega
  refine Sat.skip ?_;simp only[Qf];(repeat refine Qc ?_);refine Sat.block ?_;(repeat refine Qc ?_);(refine Qa fun k hk=>?_;simp only[id,seval,ptr,Qb,Z7,qb134]);refine Qd (diceIdC cb ad cap xs hl) rfl (by rintro _ ⟨d,rfl⟩;exact ok_aggL (l:=Idn.cs d) rfl) ?_;rintro r ⟨d,rfl⟩;simp only[idnAg,Idn.cs,id,seval,ptr,Int.reduceToNat,Qb,Z7,qb136];intro b9;refine⟨⟨by unfold maxLen;omega,by omega⟩,fun a2 c2=>hk _ ?_⟩;clear hk k;simp only[Qf,Qg];refine Qa fun k hk=>?_;simp only[id,seval,ptr,Qb,Z7,e2,qb134];refine hk _ ?_;simp only[Qf,Qg];refine⟨(m - 1,a2,c2,ids ++ [d]),by simp only[List.length_append,List.length_singleton];omega,by simp only;omega,?_⟩;simp only[List.length_append,List.length_singleton];simp only[id,seval,ptr,Qb,Z7,qb135];exact idn_app rfl
 refine Sat.exit ?_;simp only[Qf,Qg,reduceIte];(repeat refine Qc ?_);(refine Qa fun k hk=>?_;simp only[id,seval,ptr,Qb,Z7,qb134];refine hk _ ?_;clear hk k;try show Sat _ _ _ _ _);refine Sat.ret ?_;simp only[Tryz.results27,id,seval,ptr,Int.reduceToNat,Qb,Z7,retN,retNK,newRow,qb136];exact⟨⟨rfl,rfl,rfl⟩,a,c,ids,by omega,rfl⟩
end

section
open Go.Sort Eng
theorem ZN (r:SV) (h:∃ x:Int,r=.i .i64 x):∀ R w,r.ok R w:=by
 obtain⟨x,rfl⟩:=h;exact Qh rfl
def u32 (x:Int):Prop:=0≤x∧x<4294967296
theorem u32_wrap (x:Int):u32 (IntKind.u32.wrap x):=by
 simp only[u32,IntKind.wrap,IntKind.signed,IntKind.bits,Bool.false_and,Bool.false_eq_true,if_false];omega
theorem u32_keep {x:Int} (h:u32 x):IntKind.i64.wrap x=x:=by
 unfold u32 at h;exact w64 (by omega)
def wfR (x:Res):Prop:=u32 x.dst∧u32 x.from_
theorem plain_addrU (r:SV) (h:∃ x:Int,r=.i .u32 x∧u32 x):∀ R w,r.ok R w:=by
 obtain⟨x,rfl,_⟩:=h;exact Qh rfl
theorem QM {n:Int} (r:SV) (h:∃ x:Int,r=.i .i64 x∧0≤x∧(x<n∨x=0)):∀ R w,r.ok R w:=by
 obtain⟨x,rfl,_⟩:=h;exact Qh rfl
theorem ints_at (xs:List Int) (i:Nat) (h:i<xs.length):rdL (xs.map (SV.i .i64)) 1 i 0=.i .i64 (xs.getD i 0):=by simp [rdL,List.getD,h]
def qb137:=And.intro @evr (And.intro @Qm (@evn))
def qb138:=And.intro @evr (And.intro @List.append_nil.{0} (And.intro @Int.toNat_zero (And.intro @Nat.sub_self (@Qm))))
set_option maxRecDepth 100000 in
theorem addressRC (cb:Nat):Contract (Frm.codes cb) Tryz.prog 78 [ptr cb] (fun r=>∃ x:Int,r=.i .u32 x∧u32 x):=by
 refine Qi Tryz.func78 rfl (by kernel_rfl) ?_;simp only[Tryz.ntmps78,Qt,ptr];(repeat refine Qc ?_);(refine Qa fun k hk=>?_;simp only[id,seval,ptr,Qb,qb137];refine hk _ ?_;clear hk k;try show Sat _ _ _ _ _);(repeat refine Qc ?_);(refine Qa fun k hk=>?_;simp only[id,seval,ptr,Qb,qb137]);refine Qd (Zf cb 12 (by decide) (by decide)) rfl QM ?_;rintro r ⟨x1,rfl,_⟩;simp only[id,seval,ptr,Qb,qb137];(refine hk _ ?_;clear hk k;try show Sat _ _ _ _ _);(repeat refine Qc ?_);refine Qe rfl (fun _=>?_) (fun _=>?_)
 ·(repeat refine Qc ?_);(refine Qa fun k hk=>?_;simp only[id,seval,ptr,Qb,qb137]);refine Qd (Zf cb 65536 (by decide) (by decide)) rfl QM ?_;rintro r ⟨x2,rfl,_⟩;simp only[id,reduceCtorEq,reduceIte,Nat.reduceMul,Nat.reduceAdd,Nat.reduceLT,Nat.reduceLeDiff,Nat.reduceEqDiff,Int.reduceLT,Int.reduceBEq,Int.reduceBNe,Nat.reduceBEq,ptr,Qb,qb137];refine⟨by decide,?_⟩;refine Qd (Zf cb 65536 (by decide) (by decide)) rfl QM ?_;rintro r ⟨x3,rfl,_⟩;simp only[id,seval,ptr,Qb,qb137];(refine hk _ ?_;clear hk k;try show Sat _ _ _ _ _);refine Sat.ret ?_;simp only[Tryz.results78,id,seval,ptr,Qb,qb138];exact⟨_,rfl,u32_wrap _⟩
 ·refine Sat.skip ?_;simp only[Qf];(repeat refine Qc ?_);(refine Qa fun k hk=>?_;simp only[id,seval,ptr,Qb,qb137]);refine Qd (Zf cb 3 (by decide) (by decide)) rfl QM ?_;rintro r ⟨x2,rfl,_⟩;simp only[id,reduceCtorEq,reduceIte,Nat.reduceMul,Nat.reduceAdd,Nat.reduceLT,Nat.reduceLeDiff,Nat.reduceEqDiff,Int.reduceLT,Int.reduceBEq,Int.reduceBNe,Nat.reduceBEq,ptr,Qb,qb137];refine⟨by decide,?_⟩;refine Qd (Zf cb 8 (by decide) (by decide)) rfl QM ?_;rintro r ⟨x3,rfl,_⟩;simp only[id,seval,ptr,Qb,qb137];(refine hk _ ?_;clear hk k;try show Sat _ _ _ _ _);refine Sat.ret ?_;simp only[Tryz.results78,id,seval,ptr,Qb,qb138];exact⟨_,rfl,u32_wrap _⟩
set_option maxRecDepth 100000 in
theorem protoRC (cb:Nat):Contract (Frm.codes cb) Tryz.prog 79 [ptr cb] (fun r=>∃ x:Int,r=.i .i64 x):=by
 refine Qi Tryz.func79 rfl (by kernel_rfl) ?_;simp only[Tryz.ntmps79,Qt,ptr];(repeat refine Qc ?_);(refine Qa fun k hk=>?_;simp only[id,seval,ptr,Qb,qb137];refine hk _ ?_;clear hk k;try show Sat _ _ _ _ _);(repeat refine Qc ?_);(refine Qa fun k hk=>?_;simp only[id,seval,ptr,Qb,qb137]);intro blk;refine Qd (Zf cb 3 (by decide) (by decide)) rfl QM ?_;rintro r ⟨x,rfl,hx0,hx1⟩;obtain⟨i,rfl⟩:=Int.eq_ofNat_of_zero_le hx0;have e:=ints_at [17,1,6] i (by show i<3;omega);simp only[List.map_cons,List.map_nil] at e;simp only[id,seval,ptr,Qb,e,qb137];refine⟨by omega,by omega,?_⟩;(refine hk _ ?_;clear hk k;try show Sat _ _ _ _ _);refine Sat.ret ?_;simp only[Tryz.results79,id,seval,ptr,Qb,qb138];exact⟨_,rfl⟩
set_option maxRecDepth 100000 in
theorem intRC (cb:Nat):Contract (Frm.codes cb) Tryz.prog 80 [ptr cb] (fun r=>∃ x:Int,r=.i .i64 x):=by
 refine Qi Tryz.func80 rfl (by kernel_rfl) ?_;simp only[Tryz.ntmps80,Qt,ptr];(repeat refine Qc ?_);(refine Qa fun k hk=>?_;simp only[id,seval,ptr,Qb,qb137];refine hk _ ?_;clear hk k;try show Sat _ _ _ _ _);(repeat refine Qc ?_);(refine Qa fun k hk=>?_;simp only[id,seval,ptr,Qb,qb137]);refine Qd (Zf cb 10 (by decide) (by decide)) rfl QM ?_;rintro r ⟨x1,rfl,_⟩;simp only[id,seval,ptr,Qb,qb137];(refine hk _ ?_;clear hk k;try show Sat _ _ _ _ _);(repeat refine Qc ?_);refine Sat.block ?_;(repeat refine Qc ?_);(refine Qa fun k hk=>?_;simp only[id,seval,ptr,Qb,qb137];refine hk _ ?_;clear hk k;try show Sat _ _ _ _ _);(repeat refine Qc ?_);refine Qe rfl (fun _=>?_) (fun _=>?_)
 ·(repeat refine Qc ?_);(refine Qa fun k hk=>?_;simp only[id,seval,ptr,Qb,qb137]);refine Qd (Zf cb 3 (by decide) (by decide)) rfl QM ?_;rintro r ⟨x2,rfl,_⟩;simp only[id,seval,ptr,Qb,qb137];(refine hk _ ?_;clear hk k;try show Sat _ _ _ _ _);refine Sat.ret ?_;simp only[Qg,Tryz.results80,id,seval,ptr,Qb,qb138];exact⟨_,rfl⟩
 ·(repeat refine Qc ?_);(refine Qa fun k hk=>?_;simp only[id,seval,ptr,Qb,qb137];refine hk _ ?_;clear hk k;try show Sat _ _ _ _ _);refine Qe rfl (fun _=>?_) (fun _=>?_)
  ·(repeat refine Qc ?_);(refine Qa fun k hk=>?_;simp only[id,seval,ptr,Qb,qb137]);intro blk;refine Qd (Zf cb 14 (by decide) (by decide)) rfl QM ?_;rintro r ⟨x,rfl,hx0,hx1⟩;obtain⟨i,rfl⟩:=Int.eq_ofNat_of_zero_le hx0;have e:=ints_at [9223372036854775807,-9223372036854775808,1125899906842624,1125899906842625,65535,65536,255,256,1023,1024,65534,65535,4294967296,4611686018427387905] i (by show i<14;omega);simp only[List.map_cons,List.map_nil] at e;simp only[id,seval,ptr,Qb,e,qb137];refine⟨by omega,by omega,?_⟩;(refine hk _ ?_;clear hk k;try show Sat _ _ _ _ _);refine Sat.ret ?_;simp only[Qg,Tryz.results80,id,seval,ptr,Qb,qb138];exact⟨_,rfl⟩
  ·(repeat refine Qc ?_);(refine Qa fun k hk=>?_;simp only[id,seval,ptr,Qb,qb137];refine hk _ ?_;clear hk k;try show Sat _ _ _ _ _);refine Qe rfl (fun _=>?_) (fun _=>?_)
   ·(repeat refine Qc ?_);(refine Qa fun k hk=>?_;simp only[id,seval,ptr,Qb,qb137]);refine Qd (Zf cb 256 (by decide) (by decide)) rfl QM ?_;rintro r ⟨x2,rfl,_⟩;simp only[id,seval,ptr,Qb,qb137];refine Qd (Zf cb 256 (by decide) (by decide)) rfl QM ?_;rintro r ⟨x3,rfl,_⟩;simp only[id,seval,ptr,Qb,qb137];(refine hk _ ?_;clear hk k;try show Sat _ _ _ _ _);refine Sat.ret ?_;simp only[Qg,Tryz.results80,id,seval,ptr,Qb,qb138];exact⟨_,rfl⟩
   ·refine Sat.skip ?_;simp only[Qf,Qg];(repeat refine Qc ?_);(refine Qa fun k hk=>?_;simp only[id,seval,ptr,Qb,qb137]);refine Qd (Zf cb 40 (by decide) (by decide)) rfl QM ?_;rintro r ⟨x2,rfl,_⟩;simp only[id,seval,ptr,Qb,qb137];(refine hk _ ?_;clear hk k;try show Sat _ _ _ _ _);refine Sat.ret ?_;simp only[Tryz.results80,id,seval,ptr,Qb,qb138];exact⟨_,rfl⟩
end

section
open Go.Sort Eng
def rsOwn (blk2 blk3:Nat) (x:Res):List Eng.Own:=[.box blk2 62 (Res.cs default),.box blk3 62 (Res.cs x)]
def ZC:=And.intro @evr (And.intro @Qm (And.intro @Qq (@evn)))
set_option maxRecDepth 100000 in
theorem resultC (cb:Nat):Contract (Frm.codes cb) Tryz.prog 43 [ptr cb] (fun r=>∃ x:Res,r=Q0 x∧wfR x):=by
 refine Qi Tryz.func43 rfl (by kernel_rfl) ?_;simp only[Tryz.ntmps43,Qt,ptr];(repeat refine Qc ?_);(refine Qa fun k hk=>?_;simp only[id,seval,ptr,Qb,ZC]);intro blk2;(refine hk _ ?_;clear hk k;try show Sat _ _ _ _ _);(repeat refine Qc ?_);(refine Qa fun k hk=>?_;simp only[id,seval,ptr,Qb,ZC]);refine Qd (Zf cb 2 (by decide) (by decide)) rfl QM ?_;rintro r ⟨x1,rfl,_⟩;simp only[id,seval,ptr,Qb,ZC];refine Qd (Zf cb 2 (by decide) (by decide)) rfl QM ?_;rintro r ⟨x2,rfl,_⟩;simp only[id,seval,ptr,Qb,ZC];refine Qd (Zf cb 4 (by decide) (by decide)) rfl QM ?_;rintro r ⟨x3,rfl,_⟩;simp only[id,seval,ptr,Qb,ZC];refine Qd (Zf cb 50 (by decide) (by decide)) rfl QM ?_;rintro r ⟨x4,rfl,_⟩;simp only[id,seval,ptr,Qb,ZC];refine Qd (addressRC cb) rfl plain_addrU ?_;rintro r ⟨x5,rfl,hx5⟩;simp only[id,seval,ptr,Qb,ZC];refine Qd (protoRC cb) rfl ZN ?_;rintro r ⟨x6,rfl⟩;simp only[id,seval,ptr,Qb,ZC];refine Qd (Zf cb 3 (by decide) (by decide)) rfl QM ?_;rintro r ⟨x7,rfl,_⟩;simp only[id,seval,ptr,Qb,ZC];refine Qd (Zf cb 4 (by decide) (by decide)) rfl QM ?_;rintro r ⟨x8,rfl,_⟩;simp only[id,seval,ptr,Qb,ZC];generalize IntKind.i64.wrap (1+x8)=y8;intro blk3;(refine hk _ ?_;clear hk k;try show Sat _ _ _ _ _);(repeat refine Qc ?_);(refine Sat.region_rows [⟨0,23,8,0⟩,⟨1,24,4194304,1⟩,⟨0,25,1,0⟩,⟨4,26,16777216,2⟩,⟨10,27,41943040,0⟩,⟨31,28,8,0⟩,⟨63,0,201326592,2⟩] [0,2,1] [(3,false),(4,false),(5,false),(6,false)] [3] (by kernel_rfl) (by kernel_rfl) (fun _ _ h=>h) fun k hk=>?_;simp only[List.map_cons,List.map_nil,List.getD_cons_zero,List.getD_cons_succ,btseq_cons,btseq_free,btseq_nil];simp only[id,seval,ptr,Qb,ZC]);refine Qd (Zf cb 30 (by decide) (by decide)) rfl QM ?_;rintro r ⟨x9,rfl,_⟩;simp only[id,seval,ptr,Qb,ZC];generalize IntKind.i64.wrap (x4+x9)=y9;(refine hk _ ?_;clear hk k;try show Sat _ _ _ _ _);(repeat refine Qc ?_);(refine Qa fun k hk=>?_;simp only[id,seval,ptr,Qb,ZC]);refine Qd (Zf cb 3 (by decide) (by decide)) rfl QM ?_;rintro r ⟨x10,rfl,_⟩;simp only[id,seval,ptr,Qb,ZC];(refine hk _ ?_;clear hk k;try show Sat _ _ _ _ _);refine QT (ι:=Res) (fun x=>⟨96,[(0,ptr cb),(2,.op 0 blk2 0),(3,.op 1 blk3 0)],rsOwn blk2 blk3 x⟩) (fun x=>wfR x) ?_ ?_
 ·refine Qe rfl (fun _=>?_) (fun _=>?_)
  ·(repeat refine Qc ?_);(refine Qa fun k hk=>?_;simp only[id,seval,ptr,Qb,ZC]);refine Qd (Zf cb 6 (by decide) (by decide)) rfl QM ?_;rintro r ⟨x11,rfl,_⟩;simp only[id,seval,ptr,Qb,ZC];(refine hk _ ?_;clear hk k;try show Sat _ _ _ _ _);refine Sat.boxBools 1 rfl ?_;simp only[id,seval,ptr,Qb,ZC];(refine Qa fun k hk=>?_;simp only[id,seval,ptr,Qb,ZC]);refine Qd (addressRC cb) rfl plain_addrU ?_;rintro r ⟨z1,rfl,hz1⟩;simp only[id,seval,ptr,Qb,ZC];refine Qd (Zf cb 5 (by decide) (by decide)) rfl QM ?_;rintro r ⟨z2,rfl,_⟩;simp only[id,seval,ptr,Qb,ZC];refine Qd (Zf cb 4 (by decide) (by decide)) rfl QM ?_;rintro r ⟨z3,rfl,_⟩;simp only[id,seval,ptr,Qb,ZC];refine Qd (Zf cb 5 (by decide) (by decide)) rfl QM ?_;rintro r ⟨z4,rfl,_⟩;simp only[id,seval,ptr,Qb,ZC];refine Qd (Zf cb 300 (by decide) (by decide)) rfl QM ?_;rintro r ⟨z5,rfl,_⟩;simp only[id,seval,ptr,Qb,ZC];refine Qd (Zf cb 2 (by decide) (by decide)) rfl QM ?_;rintro r ⟨z6,rfl,_⟩;simp only[id,seval,ptr,Qb,ZC];(refine hk _ ?_;clear hk k;try show Sat _ _ _ _ _);simp only[Qf];exact⟨⟨_,_,_,_,x5,_,_,_,_,_,_,z1,_,_,_,_,_⟩,⟨hx5,hz1⟩,rfl,⟨.inl rfl,.inl rfl,.inl rfl,trivial⟩,⟨rfl,rfl,rfl⟩,⟨rfl,rfl,rfl⟩,trivial⟩
  ·refine Sat.skip ?_;simp only[Qf];exact⟨⟨_,_,_,_,x5,_,_,_,_,_,_,_,_,_,_,_,_⟩,⟨hx5,(⟨by decide,by decide⟩:u32 0)⟩,rfl,⟨.inl rfl,.inl rfl,.inl rfl,trivial⟩,⟨rfl,rfl,rfl⟩,⟨rfl,rfl,rfl⟩,trivial⟩
 rintro x hx;simp only[Qf,rsOwn,Res.cs,ptr];(repeat refine Qc ?_);(refine Qa fun k hk=>?_;simp only[id,seval,ptr,Qb,ZC]);refine Qd (Zf cb 16 (by decide) (by decide)) rfl QM ?_;rintro r ⟨x12,rfl,_⟩;simp only[id,seval,ptr,Qb,ZC];(refine hk _ ?_;clear hk k;try show Sat _ _ _ _ _);(repeat refine Qc ?_);refine QT (ι:=Res) (fun x=>⟨96,[(0,ptr cb),(2,.op 0 blk2 0),(3,.op 1 blk3 0)],rsOwn blk2 blk3 x⟩) (fun x=>wfR x) ?_ ?_
 ·refine Sat.block ?_;(repeat refine Qc ?_);(refine Qa fun k hk=>?_;simp only[id,seval,ptr,Qb,ZC];refine hk _ ?_;clear hk k;try show Sat _ _ _ _ _);refine Qe rfl (fun _=>?_) (fun _=>?_)
  ·(refine Qa fun k hk=>?_;simp only[id,seval,ptr,Qb,ZC]);refine Qd (intRC cb) rfl ZN ?_;rintro r ⟨w0,rfl⟩;simp only[id,seval,ptr,Qb,ZC];refine Qd (intRC cb) rfl ZN ?_;rintro r ⟨w1,rfl⟩;simp only[id,seval,ptr,Qb,ZC];(refine hk _ ?_;clear hk k;try show Sat _ _ _ _ _);simp only[Qf,Qg];exact⟨{ x with at_:=w0,back:=w1 },⟨hx.1,hx.2⟩,rfl,⟨.inl rfl,.inl rfl,.inl rfl,trivial⟩,⟨rfl,rfl,rfl⟩,⟨rfl,rfl,rfl⟩,trivial⟩
  ·(repeat refine Qc ?_);(refine Qa fun k hk=>?_;simp only[id,seval,ptr,Qb,ZC];refine hk _ ?_;clear hk k;try show Sat _ _ _ _ _);refine Qe rfl (fun _=>?_) (fun _=>?_)
   ·(refine Qa fun k hk=>?_;simp only[id,seval,ptr,Qb,ZC]);refine Qd (intRC cb) rfl ZN ?_;rintro r ⟨w0,rfl⟩;simp only[id,seval,ptr,Qb,ZC];refine Qd (intRC cb) rfl ZN ?_;rintro r ⟨w1,rfl⟩;simp only[id,seval,ptr,Qb,ZC];refine Qd (intRC cb) rfl ZN ?_;rintro r ⟨w2,rfl⟩;simp only[id,seval,ptr,Qb,ZC];(refine hk _ ?_;clear hk k;try show Sat _ _ _ _ _);simp only[Qf,Qg];exact⟨{ x with flow:=w0,ttl:=w1,proto:=w2 },⟨hx.1,hx.2⟩,rfl,⟨.inl rfl,.inl rfl,.inl rfl,trivial⟩,⟨rfl,rfl,rfl⟩,⟨rfl,rfl,rfl⟩,trivial⟩
   ·(repeat refine Qc ?_);(refine Qa fun k hk=>?_;simp only[id,seval,ptr,Qb,ZC];refine hk _ ?_;clear hk k;try show Sat _ _ _ _ _);refine Qe rfl (fun _=>?_) (fun _=>?_)
    ·(refine Qa fun k hk=>?_;simp only[id,seval,ptr,Qb,ZC]);refine Qd (intRC cb) rfl ZN ?_;rintro r ⟨w0,rfl⟩;simp only[id,seval,ptr,Qb,ZC];refine Qd (intRC cb) rfl ZN ?_;rintro r ⟨w1,rfl⟩;simp only[id,seval,ptr,Qb,ZC];(refine hk _ ?_;clear hk k;try show Sat _ _ _ _ _);simp only[Qf,Qg];exact⟨{ x with kind:=w0,id:=w1 },⟨hx.1,hx.2⟩,rfl,⟨.inl rfl,.inl rfl,.inl rfl,trivial⟩,⟨rfl,rfl,rfl⟩,⟨rfl,rfl,rfl⟩,trivial⟩
    ·(repeat refine Qc ?_);(refine Qa fun k hk=>?_;simp only[id,seval,ptr,Qb,ZC];refine hk _ ?_;clear hk k;try show Sat _ _ _ _ _);refine Qe rfl (fun _=>?_) (fun _=>?_)
     ·(refine Qa fun k hk=>?_;simp only[id,seval,ptr,Qb,ZC]);refine Qd (intRC cb) rfl ZN ?_;rintro r ⟨w0,rfl⟩;simp only[id,seval,ptr,Qb,ZC];refine Qd (intRC cb) rfl ZN ?_;rintro r ⟨w1,rfl⟩;simp only[id,seval,ptr,Qb,ZC];refine Qd (intRC cb) rfl ZN ?_;rintro r ⟨w2,rfl⟩;simp only[id,seval,ptr,Qb,ZC];(refine hk _ ?_;clear hk k;try show Sat _ _ _ _ _);simp only[Qf,Qg];exact⟨{ x with vantage:=w0,run:=w1,number:=w2 },⟨hx.1,hx.2⟩,rfl,⟨.inl rfl,.inl rfl,.inl rfl,trivial⟩,⟨rfl,rfl,rfl⟩,⟨rfl,rfl,rfl⟩,trivial⟩
     ·refine Sat.skip ?_;simp only[Qf,Qg];exact⟨x,hx,rfl,⟨.inl rfl,.inl rfl,.inl rfl,trivial⟩,⟨rfl,rfl,rfl⟩,⟨rfl,rfl,rfl⟩,trivial⟩
 rintro y hy;simp only[Qf,rsOwn,Res.cs,ptr];(repeat refine Qc ?_);(refine Qa fun k hk=>?_;simp only[id,seval,ptr,Qb,ZC];refine hk _ ?_;clear hk k;try show Sat _ _ _ _ _);refine Sat.ret ?_;simp only[Tryz.results43,evr,id,seval,ptr,List.append_nil,Int.toNat_zero,Nat.sub_self,Qm,Qb,Qq];exact⟨y,rfl,hy⟩
theorem plain_resA (x:Res):∀ R w,(Q0 x).ok R w:=by
 intro R w j hj
 have:XA (Qk #[x] 0 j)=true:=Qm _ _ _ hj
 rcases (show j=0∨j=1∨j=2∨j=3∨j=4∨j=5∨j=6∨j=7∨j=8∨j=9∨j=10∨j=11∨j=12∨j=13∨j=14∨j=15∨j=16 by omega) with rfl|rfl|rfl|rfl|rfl|rfl|rfl|rfl|rfl|rfl|rfl|rfl|rfl|rfl|rfl|rfl|rfl<;>exact trivial
theorem plain_res (r:SV) (h:∃ x:Res,r=Q0 x∧wfR x):∀ R w,r.ok R w:=by
 obtain⟨x,rfl,_⟩:=h;exact plain_resA x
end

section
open Go.Sort Eng
theorem res_2x (d:Array Res) (i:Nat):Qk d i 2=.i .i64 (d[i]!).number:=rfl
theorem res_3x (d:Array Res) (i:Nat):Qk d i 3=.i .i64 (d[i]!).at_:=rfl
theorem res_8x (d:Array Res) (i:Nat):Qk d i 8=.b (d[i]!).answered:=rfl
theorem res_9x (d:Array Res) (i:Nat):Qk d i 9=.b (d[i]!).doubled:=rfl
theorem w64_inAx {x:Int} (h:InA x):w64i x=x:=w64 ⟨by have:=h.1;omega,by have:=h.2;omega⟩
def RgN (r:Res):Prop:=RgR r∧InA r.from_
theorem wf_rg {x:Res} (h:wfR x):RgN x:=⟨⟨u32_keep h.1,u32_keep h.2⟩,h.2⟩
theorem all17 {P:Nat→Prop} (h:P 0∧P 1∧P 2∧P 3∧P 4∧P 5∧P 6∧P 7∧P 8∧P 9∧P 10∧P 11∧P 12∧P 13∧P 14∧P 15∧P 16):∀ j,j<17→P j:=by
 intro j hj;obtain⟨h0,h1,h2,h3,h4,h5,h6,h7,h8,h9,h10,h11,h12,h13,h14,h15,h16⟩:=h;rcases (show j=0∨j=1∨j=2∨j=3∨j=4∨j=5∨j=6∨j=7∨j=8∨j=9∨j=10∨j=11∨j=12∨j=13∨j=14∨j=15∨j=16 by omega) with rfl|rfl|rfl|rfl|rfl|rfl|rfl|rfl|rfl|rfl|rfl|rfl|rfl|rfl|rfl|rfl|rfl<;>assumption
theorem set_rg {ys:List Res} {ix:Nat} {x:Res} (h:∀ r∈ys,RgN r) (hx:RgN x):∀ r∈ys.set ix x,RgN r:=fun r hr=>by
 rcases List.mem_or_eq_of_mem_set hr with h1|rfl
 ·exact h r h1
 ·exact hx
theorem rs_set {ys:List Res} {ix f:Nat} {vs:List SV} (h:ix<ys.length) (x:Res) (hx:∀ j,j<17→(if f≤j∧j<f+vs.length then vs.getD (j - f) default else (Res.cs ys.toArray[ix]!).getD j default)=(Res.cs x).getD j default):rdEq ys.length 17 (Z8 (Qk ys.toArray) ix f vs) (Qk (ys.set ix x).toArray):=by
 intro p q hp hq;unfold Z8;have hl:p<(ys.set ix x).length:=by rw[List.length_set];exact hp
 show _=(Res.cs (ys.set ix x).toArray[p]!).getD q default;rw[getB hl];by_cases e:p=ix
 ·subst e;rw[List.getElem_set_self,← hx q hq];by_cases g:f≤q∧q<f+vs.length
  ·rw[if_pos ⟨rfl,g⟩,if_pos g]
  ·rw[if_neg (fun g2=>g g2.2),if_neg g];rfl
 ·rw[if_neg (fun g=>e g.1),List.getElem_set_ne (fun g=>e g.symm)];show (Res.cs ys.toArray[p]!).getD q default=_;rw[getB hp]
def Z9:=And.intro @evr (And.intro @Qm (And.intro @Qq (And.intro @res_8x (And.intro @res_9x (And.intro @res_3x (@evn))))))
def qb142:=And.intro @evr (And.intro @Qm (And.intro @Qq (And.intro @res_8x (And.intro @res_9x (And.intro @res_3x (And.intro @evl (@evn)))))))
def qb141:=And.intro @evr (And.intro @Qm (And.intro @Qq (And.intro @List.append_nil.{0} (And.intro @Int.toNat_zero (And.intro @Nat.sub_self (And.intro @res_8x (And.intro @res_9x (@res_3x))))))))
set_option maxHeartbeats 2000000 in
set_option maxRecDepth 100000 in
theorem oddC (cb:Nat) (ad:Option Addr) (cap:Nat) (xs:List Res) (hl:xs.length≤1000) (hin:∀ r∈xs,RgN r) :
  ContractN (Frm.codes cb) Tryz.prog 11 [ptr cb,.sl ad xs.length cap 17 (Qk xs.toArray)] (fun o=>∃ (a:Option Addr) (c:Nat) (ys:List Res),(∀ r∈ys,RgN r)∧ys.length≤xs.length+1∧o=Qb a ys.length c ys.toArray):=by
 refine Zh Tryz.func11 rfl (by kernel_rfl) ?_;simp only[Tryz.ntmps11,Qt,ptr];(repeat refine Qc ?_);(refine Qa fun k hk=>?_;simp only[id,seval,ptr,Qb,Z9];refine hk _ ?_;clear hk k;try show Sat _ _ _ _ _);(repeat refine Qc ?_);(refine Qa fun k hk=>?_;simp only[id,seval,ptr,Qb,Z9]);refine⟨⟨by unfold maxLen;omega,by omega⟩,fun a c=>?_⟩;(refine hk _ ?_;clear hk k;try show Sat _ _ _ _ _);(repeat refine Qc ?_);(refine Qa fun k hk=>?_;simp only[id,seval,ptr,Qb,Z9];refine hk _ ?_;clear hk k;try show Sat _ _ _ _ _);(repeat refine Qc ?_);refine Qe rfl (fun h=>?_) (fun h=>?_)
 ·(repeat refine Qc ?_);(refine Qa fun k hk=>?_;simp only[id,seval,ptr,Qb,Z9]);refine Qd (resultC cb) rfl plain_res ?_;rintro _ ⟨x,rfl,hw⟩;simp only[Q0,Res.cs,id,seval,ptr,Qb,qb141];intro b3;refine⟨⟨by unfold maxLen;omega,by omega⟩,fun a2 cap2=>?_⟩;(refine hk _ ?_;clear hk k;try show Sat _ _ _ _ _);have h0:xs.length=0:=by simpa using h
  obtain rfl:=List.eq_nil_of_length_eq_zero h0;refine Sat.le (st':=⟨125,[(4,.os 0 a2 1 cap2)],[Qb a2 1 cap2 ([] ++ [x]).toArray]⟩) ?_ ?_
  ·refine Sat.ret ?_;simp only[Qf,Qb,Tryz.results11,id,seval,ptr,Qb,retN,retNK,newRow,qb141];exact⟨⟨rfl,rfl,rfl⟩,a2,cap2,[x],fun r hr=>by rw[List.mem_singleton.1 hr];exact wf_rg hw,by simp,rfl⟩
  ·simp only[Qb];simp only[id,seval,ptr,Qb,qb142];exact (res_app (ys:=([]:List Res)) rfl)
 have hpos:0<xs.length:=by
  have:¬ ((xs.length:Int)=0):=by simpa using h
  omega
 refine Sat.skip ?_;simp only[Qf];obtain⟨ys,hyx⟩:∃ ys,ys=xs:=⟨_,rfl⟩;rw[← hyx] at hpos hin hl ⊢;clear hyx h;have hys:=hin;(repeat refine Qc ?_);(refine Qa fun k hk=>?_;simp only[id,seval,ptr,Qb,Z9]);refine Qd (Zf cb ys.length (by omega) (by omega)) rfl (by rintro _ ⟨x,rfl,_⟩;exact Qh rfl) ?_;rintro _ ⟨ix,rfl,hx0,hx1⟩;obtain⟨ix,rfl⟩:=Int.eq_ofNat_of_zero_le hx0;have hix:ix<ys.length:=by omega
 obtain⟨y,hy⟩:∃ y,ys.toArray[ix]! = y:=⟨_,rfl⟩;have hgy:RgN y:=by rw[← hy,getB hix];exact hys _ (List.getElem_mem hix)
 simp only[id,seval,ptr,Qb,Z9];(refine hk _ ?_;clear hk k;try show Sat _ _ _ _ _);(repeat refine Qc ?_);(refine Qa fun k hk=>?_;simp only[id,seval,ptr,Qb,Z9]);refine Qd (Zf cb 9 (by decide) (by decide)) rfl (by rintro _ ⟨x,rfl,_⟩;exact Qh rfl) ?_;rintro _ ⟨w9,rfl,_,_⟩;simp only[id,seval,ptr,Qb,Z9];(refine hk _ ?_;clear hk k;try show Sat _ _ _ _ _);refine QT (ι:=List Res) (fun zs=>⟨125,[(5,.os 0 a ys.length c)],[.row a 62 ys.length c 17 (Qk zs.toArray)]⟩) (fun zs=>zs.length=ys.length∧∀ r∈zs,RgN r) ?_ ?_
 ·refine Sat.block ?_;(repeat refine Qc ?_);(refine Qa fun k hk=>?_;simp only[id,seval,ptr,Qb,Z9];refine hk _ ?_;clear hk k;try show Sat _ _ _ _ _);refine Qe rfl (fun h=>?_) (fun h=>?_)
  ·(repeat refine Qc ?_);(refine Qa fun k hk=>?_;simp only[id,seval,ptr,Qb,Z9]);refine Qd (resultC cb) rfl plain_res ?_;rintro _ ⟨x,rfl,hw⟩;simp only[Q0,Res.cs,id,seval,ptr,Qb,qb141];refine⟨by omega,by omega,?_⟩;refine hk _ ?_;clear hk k;simp only[Qf,Qg,reduceIte];refine⟨ys.set ix x,⟨List.length_set ..,set_rg hys (wf_rg hw)⟩,?_⟩;simp only[id,seval,ptr,Qb,qb142];exact rs_set hix x (by rw[hy];exact all17 ⟨rfl,rfl,rfl,rfl,rfl,rfl,rfl,rfl,rfl,rfl,rfl,rfl,rfl,rfl,rfl,rfl,rfl⟩)
  ·(repeat refine Qc ?_);(refine Qa fun k hk=>?_;simp only[id,seval,ptr,Qb,Z9];refine hk _ ?_;clear hk k;try show Sat _ _ _ _ _);refine Qe rfl (fun h=>?_) (fun h=>?_)
   ·(repeat refine Qc ?_);(refine Qa fun k hk=>?_;simp only[id,seval,ptr,Qb,Z9]);refine Qd (addrC cb) rfl plain_addrC ?_;rintro _ ⟨v,hv,rfl⟩;simp only[id,seval,ptr,Qb,Z9];refine⟨by omega,by omega,?_⟩;refine hk _ ?_;clear hk k;simp only[Qf,Qg,reduceIte];refine⟨ys.set ix { y with from_:=v },⟨List.length_set ..,set_rg hys ⟨⟨hgy.1.1,w64_inAx hv⟩,hv⟩⟩,?_⟩;simp only[id,seval,ptr,Qb,qb142];exact rs_set hix { y with from_:=v } (by rw[hy];exact all17 ⟨rfl,rfl,rfl,rfl,rfl,rfl,rfl,rfl,rfl,rfl,rfl,rfl,rfl,rfl,rfl,rfl,rfl⟩)
   ·(repeat refine Qc ?_);(refine Qa fun k hk=>?_;simp only[id,seval,ptr,Qb,Z9];refine hk _ ?_;clear hk k;try show Sat _ _ _ _ _);refine Qe rfl (fun h=>?_) (fun h=>?_)
    ·(repeat refine Qc ?_);(refine Qa fun k hk=>?_;simp only[id,seval,ptr,Qb,Z9]);refine⟨by omega,by omega,by omega,by omega,?_⟩;refine hk _ ?_;clear hk k;simp only[Qf,Qg,reduceIte];refine⟨ys.set ix { y with answered:=!y.answered },⟨List.length_set ..,set_rg hys hgy⟩,?_⟩;simp only[id,seval,ptr,Qb,qb142];exact rs_set hix { y with answered:=!y.answered } (by rw[hy];exact all17 ⟨rfl,rfl,rfl,rfl,rfl,rfl,rfl,rfl,rfl,rfl,rfl,rfl,rfl,rfl,rfl,rfl,rfl⟩)
    ·(repeat refine Qc ?_);(refine Qa fun k hk=>?_;simp only[id,seval,ptr,Qb,Z9];refine hk _ ?_;clear hk k;try show Sat _ _ _ _ _);refine Qe rfl (fun h=>?_) (fun h=>?_)
     ·(repeat refine Qc ?_);(refine Qa fun k hk=>?_;simp only[id,seval,ptr,Qb,Z9]);intro bp;refine Qd (pickI cb bp [0,1,2,255,256] (fun _=>True) (by decide) (by decide) (by simp)) (by simp only[id,seval,ptr,Qb,Z9]) plain_pick ?_;rintro _ ⟨v,rfl,_⟩;simp only[id,seval,ptr,Qb,Z9];refine⟨by omega,by omega,?_⟩;refine hk _ ?_;clear hk k;simp only[Qf,Qg,reduceIte];refine⟨ys.set ix { y with ttl:=v },⟨List.length_set ..,set_rg hys hgy⟩,?_⟩;simp only[id,seval,ptr,Qb,qb142];exact rs_set hix { y with ttl:=v } (by rw[hy];exact all17 ⟨rfl,rfl,rfl,rfl,rfl,rfl,rfl,rfl,rfl,rfl,rfl,rfl,rfl,rfl,rfl,rfl,rfl⟩)
     ·(repeat refine Qc ?_);(refine Qa fun k hk=>?_;simp only[id,seval,ptr,Qb,Z9];refine hk _ ?_;clear hk k;try show Sat _ _ _ _ _);refine Qe rfl (fun h=>?_) (fun h=>?_)
      ·(repeat refine Qc ?_);(refine Qp (.keep [0,1,2,3,4,5,6,8,9,10,11,7,12,13] [] (.one 14 (.one 15 (.one 16 (.one 17 (.one 18 .done)))))) (by kernel_rfl) (by kernel_rfl) (fun _ _ h=>h) fun k hk=>?_;simp only[WOT,List.map_cons,List.map_nil,List.getD_cons_zero,List.getD_cons_succ];simp only[id,seval,ptr,Qb,WOT,Z9]);refine⟨by omega,by omega,by omega,by omega,?_⟩;intro bp;refine Qd (pickI cb bp [ys.toArray[ix]!.at_,IntKind.i64.wrap (ys.toArray[ix]!.at_ - 1),2251799813685248,2251799813685249] (fun _=>True) (by simp) (by simp) (by simp)) (by simp only[id,seval,ptr,Qb,Z9]) plain_pick ?_;rintro _ ⟨v,rfl,_⟩;simp only[id,seval,ptr,Qb,Z9];refine⟨by omega,by omega,?_⟩;refine hk _ ?_;clear hk k;simp only[Qf,Qg,reduceIte];refine⟨ys.set ix { y with back:=v },⟨List.length_set ..,set_rg hys hgy⟩,?_⟩;simp only[id,seval,ptr,Qb,qb142];exact rs_set hix { y with back:=v } (by rw[hy];exact all17 ⟨rfl,rfl,rfl,rfl,rfl,rfl,rfl,rfl,rfl,rfl,rfl,rfl,rfl,rfl,rfl,rfl,rfl⟩)
      ·(repeat refine Qc ?_);(refine Qa fun k hk=>?_;simp only[id,seval,ptr,Qb,Z9];refine hk _ ?_;clear hk k;try show Sat _ _ _ _ _);refine Qe rfl (fun h=>?_) (fun h=>?_)
       ·(repeat refine Qc ?_);(refine Qa fun k hk=>?_;simp only[id,seval,ptr,Qb,Z9]);refine Qd (Zf cb ys.length (by omega) (by omega)) rfl (by rintro _ ⟨x,rfl,_⟩;exact Qh rfl) ?_;rintro _ ⟨q,rfl,hq0,hq1⟩;obtain⟨q,rfl⟩:=Int.eq_ofNat_of_zero_le hq0;simp only[id,seval,ptr,Qb,res_2x,Z9];refine⟨by omega,by omega,by omega,by omega,?_⟩;refine hk _ ?_;clear hk k;simp only[Qf,Qg,reduceIte];refine⟨ys.set ix { y with number:=(ys.toArray[q]!).number },⟨List.length_set ..,set_rg hys hgy⟩,?_⟩;simp only[id,seval,ptr,Qb,qb142];exact rs_set hix { y with number:=(ys.toArray[q]!).number } (by rw[hy];exact all17 ⟨rfl,rfl,rfl,rfl,rfl,rfl,rfl,rfl,rfl,rfl,rfl,rfl,rfl,rfl,rfl,rfl,rfl⟩)
       ·(repeat refine Qc ?_);(refine Qa fun k hk=>?_;simp only[id,seval,ptr,Qb,Z9];refine hk _ ?_;clear hk k;try show Sat _ _ _ _ _);refine Qe rfl (fun h=>?_) (fun h=>?_)
        ·(repeat refine Qc ?_);(refine Qa fun k hk=>?_;simp only[id,seval,ptr,Qb,Z9]);refine Qd (Zf cb 2 (by decide) (by decide)) rfl (by rintro _ ⟨x,rfl,_⟩;exact Qh rfl) ?_;rintro _ ⟨q,rfl,hq0,hq1⟩;simp only[id,seval,ptr,Qb,Z9];refine⟨by omega,by omega,?_⟩;refine hk _ ?_;clear hk k;simp only[Qf,Qg,reduceIte];refine⟨ys.set ix { y with dst:=IntKind.u32.wrap q },⟨List.length_set ..,set_rg hys ⟨⟨w64_inAx (wrapA q),hgy.1.2⟩,hgy.2⟩⟩,?_⟩;simp only[id,seval,ptr,Qb,qb142];exact rs_set hix { y with dst:=IntKind.u32.wrap q } (by rw[hy];exact all17 ⟨rfl,rfl,rfl,rfl,rfl,rfl,rfl,rfl,rfl,rfl,rfl,rfl,rfl,rfl,rfl,rfl,rfl⟩)
        ·(repeat refine Qc ?_);(refine Qa fun k hk=>?_;simp only[id,seval,ptr,Qb,Z9];refine hk _ ?_;clear hk k;try show Sat _ _ _ _ _);refine Qe rfl (fun h=>?_) (fun h=>?_)
         ·(repeat refine Qc ?_);(refine Qa fun k hk=>?_;simp only[id,seval,ptr,Qb,Z9]);refine⟨by omega,by omega,by omega,by omega,?_⟩;refine hk _ ?_;clear hk k;simp only[Qf,Qg,reduceIte];refine⟨ys.set ix { y with doubled:=!y.doubled },⟨List.length_set ..,set_rg hys hgy⟩,?_⟩;simp only[id,seval,ptr,Qb,qb142];exact rs_set hix { y with doubled:=!y.doubled } (by rw[hy];exact all17 ⟨rfl,rfl,rfl,rfl,rfl,rfl,rfl,rfl,rfl,rfl,rfl,rfl,rfl,rfl,rfl,rfl,rfl⟩)
         ·(repeat refine Qc ?_);(refine Qa fun k hk=>?_;simp only[id,seval,ptr,Qb,Z9];refine hk _ ?_;clear hk k;try show Sat _ _ _ _ _);refine Qe rfl (fun h=>?_) (fun h=>?_)
          ·(repeat refine Qc ?_);(refine Qa fun k hk=>?_;simp only[id,seval,ptr,Qb,Z9]);refine Qd (Zf cb 7 (by decide) (by decide)) rfl (by rintro _ ⟨x,rfl,_⟩;exact Qh rfl) ?_;rintro _ ⟨q,rfl,hq0,hq1⟩;simp only[id,seval,ptr,Qb,Z9];refine⟨by omega,by omega,?_⟩;refine hk _ ?_;clear hk k;simp only[Qf,Qg,reduceIte];refine⟨ys.set ix { y with kind:=q },⟨List.length_set ..,set_rg hys hgy⟩,?_⟩;simp only[id,seval,ptr,Qb,qb142];exact rs_set hix { y with kind:=q } (by rw[hy];exact all17 ⟨rfl,rfl,rfl,rfl,rfl,rfl,rfl,rfl,rfl,rfl,rfl,rfl,rfl,rfl,rfl,rfl,rfl⟩)
          ·refine Sat.skip ?_;simp only[Qf,Qg,reduceIte];exact⟨ys,⟨rfl,hys⟩,by simp only[id,seval,ptr,Qb,qb142];try exact fun _ _ _ _=>rfl⟩
 rintro zs ⟨hz1,hz2⟩;simp only[Qf];(repeat refine Qc ?_);(refine Qa fun k hk=>?_;simp only[id,seval,ptr,Qb,Z9];refine hk _ ?_;clear hk k;try show Sat _ _ _ _ _);refine Sat.ret ?_;simp only[Qf,Tryz.results11,id,seval,ptr,Qb,retN,retNK,newRow,qb141];exact⟨⟨rfl,rfl,rfl⟩,a,c,zs,hz2,by omega,by rw[hz1]⟩
end

section
open Eng
def ZI:=And.intro @evr (@evn)
def qb144:=And.intro @evr (And.intro @List.append_nil.{0} (And.intro @Int.toNat_zero (@Nat.sub_self)))
set_option maxRecDepth 100000 in
theorem protoC (cb:Nat):Contract (Frm.codes cb) Tryz.prog 111 [ptr cb] (fun r=>∃ x:Int,(x=17∨x=1∨x=6)∧r=.i .i64 x):=by
 refine Qi Tryz.func111 rfl (by kernel_rfl) ?_;simp only[Tryz.ntmps111,Qt,ptr];(repeat refine Qc ?_);(refine Qa fun k hk=>?_;simp only[id,seval,ptr,ZI];refine hk _ ?_;clear hk k;try show Sat _ _ _ _ _);(repeat refine Qc ?_);(refine Qa fun k hk=>?_;simp only[id,seval,ptr,ZI]);intro blk;refine Qd (pickI cb blk [17,1,6] (fun x=>x=17∨x=1∨x=6) (by decide) (by decide) (by simp)) (by simp only[id,seval,ptr,ZI]) plain_pick ?_;rintro r ⟨x,rfl,hx⟩;simp only[id,seval,ptr,ZI];(refine hk _ ?_;clear hk k;try show Sat _ _ _ _ _);refine Sat.ret ?_;simp only[Tryz.results111,id,seval,ptr,qb144];exact⟨_,hx,rfl⟩
def trS (v d p:Int):SV:=.agg 3 fun j=>[SV.i .i64 v,.i .u32 d,.i .i64 p].getD j default
theorem trS_ok (v d p:Int) (R:Nat→Prop) (w:World):(trS v d p).ok R w:=by
 intro j hj;rcases (show j=0∨j=1∨j=2 by omega) with rfl|rfl|rfl<;>trivial
set_option maxRecDepth 100000 in
theorem traceC (cb:Nat):Contract (Frm.codes cb) Tryz.prog 77 [ptr cb] (fun r=>∃ v d p:Int,(0≤v∧v≤1)∧(InA d∧d≠0)∧(p=17∨p=1∨p=6)∧r=trS v d p):=by
 refine Qi Tryz.func77 rfl (by kernel_rfl) ?_;simp only[Tryz.ntmps77,Qt,ptr];(repeat refine Qc ?_);(refine Qa fun k hk=>?_;simp only[id,seval,ptr,ZI]);intro blk;(refine hk _ ?_;clear hk k;try show Sat _ _ _ _ _);(repeat refine Qc ?_);(refine Qa fun k hk=>?_;simp only[id,seval,ptr,ZI]);refine Qd (Zf cb 2 (by omega) (by omega)) rfl (by rintro _ ⟨x,rfl,_⟩;exact Qh rfl) ?_;rintro r ⟨v,rfl,hv0,hv1⟩;simp only[id,seval,ptr,ZI];refine Qd (Zf cb 3 (by omega) (by omega)) rfl (by rintro _ ⟨x,rfl,_⟩;exact Qh rfl) ?_;rintro r ⟨d,rfl,hd0,hd1⟩;simp only[id,seval,ptr,ZI];refine Qd (protoC cb) rfl (by rintro _ ⟨x,_,rfl⟩;exact Qh rfl) ?_;rintro r ⟨p,hp,rfl⟩;simp only[id,seval,ptr,ZI];(refine hk _ ?_;clear hk k;try show Sat _ _ _ _ _);refine Sat.ret ?_;simp only[Tryz.results77,id,seval,ptr,qb144];refine⟨v,_,p,by omega,⟨wrapA _,?_⟩,hp,rfl⟩;have ewd:IntKind.i64.wrap (167774464+d)=167774464+d:=w64 (by omega);rw[ewd,IntKind.wrap_u32];omega
structure Net where
 v:Int
 d:Int
 pr:Int
 a:Option Addr
 cap:Nat
 l:List PthP
 last:Int
instance:Inhabited Net:=⟨⟨0,0,0,none,0,[],0⟩⟩
def Net.cs (n:Net):List SV:=[.i .i64 n.v,.i .u32 n.d,.i .i64 n.pr,.sl n.a n.l.length n.cap 1 (psRd n.l),.i .u32 n.last]
structure NetOk (n:Net):Prop where
 v:0≤n.v∧n.v≤1
 d:InA n.d
 last:InA n.last
 some:1≤n.l.length∧n.l.length≤3
 ps:PsOk 3 n.l
 d0:n.d≠0
 pr:n.pr=17∨n.pr=1∨n.pr=6
def qb145:=And.intro @evr (And.intro @evl (@evn))
set_option maxRecDepth 100000 in
theorem sceneC (cb:Nat):Contract (Frm.codes cb) Tryz.prog 41 [ptr cb] (fun r=>∃ (n:Net) (f:Nat→SV),NetOk n∧r=.agg 5 f∧∀ j,j<5→f j=n.cs.getD j default):=by
 refine Qi Tryz.func41 rfl (by kernel_rfl) ?_;simp only[Tryz.ntmps41,Qt,ptr];(repeat refine Qc ?_);(refine Qa fun k hk=>?_;simp only[id,seval,ptr,ZI]);intro b2;(refine hk _ ?_;clear hk k;try show Sat _ _ _ _ _);(repeat refine Qc ?_);(refine Qa fun k hk=>?_;simp only[id,seval,ptr,ZI]);refine Qd (traceC cb) rfl (by rintro _ ⟨v,d,p,_,_,_,rfl⟩;exact trS_ok _ _ _) ?_;rintro r ⟨v,d,p,hv,⟨hd,hdn⟩,hpr,rfl⟩;simp only[trS,id,seval,ptr,qb144];intro b3;(refine hk _ ?_;clear hk k;try show Sat _ _ _ _ _);(repeat refine Qc ?_);(refine Qa fun k hk=>?_;simp only[id,seval,ptr,ZI]);(refine hk _ ?_;clear hk k;try show Sat _ _ _ _ _);(repeat refine Qc ?_);(refine Qa fun k hk=>?_;simp only[id,seval,ptr,ZI]);refine Qd (boolC cb 4 (by decide) (by decide)) rfl Xd ?_;rintro r ⟨q,rfl⟩;simp only[id,seval,ptr,ZI];(refine hk _ ?_;clear hk k;try show Sat _ _ _ _ _);(repeat refine Qc ?_);refine QT (ι:=Int) (fun u=>⟨74,[(3,.op 1 b3 0),(2,.op 0 b2 0),(0,.v (.pointer (some ⟨cb,0,none⟩)))],[Own.box b2 79 [.i .i64 0,.i .u32 0,.i .i64 0,.sl none 0 0 0 fun _ _=>.v undef,.i .u32 0],.box b3 79 [.i .i64 v,.i .u32 d,.i .i64 p,.sl none 0 0 0 fun _ _=>.v undef,.i .u32 u]]⟩) InA ?_ ?_
 ·refine Qe rfl (fun h=>?_) (fun h=>?_)
  ·(refine Qa fun k hk=>?_;simp only[id,seval,ptr,ZI]);refine Qd (addrC cb) rfl plain_addrC ?_;rintro r ⟨u,hu,rfl⟩;simp only[id,seval,ptr,ZI];refine hk _ ?_;simp only[Qf];refine⟨u,hu,?_⟩;simp only[id,seval,ptr,qb145]
  ·refine Sat.skip ?_;simp only[Qf];refine⟨d,hd,?_⟩;simp only[id,seval,ptr,qb145]
 intro u hu;simp only[Qf];(repeat refine Qc ?_);(refine Qa fun k hk=>?_;simp only[id,seval,ptr,ZI]);refine Qd (Zf cb 3 (by omega) (by omega)) rfl (by rintro _ ⟨x,rfl,_⟩;exact Qh rfl) ?_;rintro r ⟨x,rfl,hx0,hx1⟩;obtain⟨lg,hlg⟩:∃ lg:Nat,(lg:Int)=1+x:=⟨(1+x).toNat,by omega⟩;have hlg3:lg≤3:=by omega
 have e1:IntKind.i64.wrap (1+x)=(lg:Int):=by rw[w64 (by omega),hlg]
 simp only[id,seval,ptr,e1,ZI];(refine hk _ ?_;clear hk k;try show Sat _ _ _ _ _);(repeat refine Qc ?_);(refine Qa fun k hk=>?_;simp only[id,seval,ptr,ZI];refine hk _ ?_;clear hk k;try show Sat _ _ _ _ _);refine Sat.adoptBox 1 3 83 1 (psRd []) rfl rfl ?_;simp only[id,seval,ptr,ZI];(repeat refine Qc ?_);refine Sat.block ?_;refine Qo (ι:=Nat×Option Addr×Nat×List PthP) (fun z=>⟨74,[(5,.i .i64 z.1),(4,.i .i64 lg),(3,.op 1 b3 0),(2,.op 0 b2 0),(0,.v (.pointer (some ⟨cb,0,none⟩)))],[Own.box b2 79 [.i .i64 0,.i .u32 0,.i .i64 0,.sl none 0 0 0 fun _ _=>.v undef,.i .u32 0],.box b3 79 [.i .i64 v,.i .u32 d,.i .i64 p,.os 2 z.2.1 z.2.2.2.length z.2.2.1,.i .u32 u],.row z.2.1 83 z.2.2.2.length z.2.2.1 1 (psRd z.2.2.2)]⟩)
  (fun z=>z.2.2.2.length=z.1∧z.1≤3∧PsOk 3 z.2.2.2) (fun z=>3 - z.1) (0,none,0,[]) ⟨rfl,by simp,fun q h=>by cases h⟩ (by simp only[id,seval,ptr,qb145];first|rfl|trace_state) ?_
 rintro⟨f,a,c,l⟩ ⟨hfl,hf3,hl⟩;simp only at hfl hf3 hl ⊢;(repeat refine Qc ?_);(refine Qa fun k hk=>?_;simp only[id,seval,ptr,ZI]);refine Qd (Zf cb 3 (by omega) (by omega)) rfl (by rintro _ ⟨x,rfl,_⟩;exact Qh rfl) ?_;rintro r ⟨x2,rfl,hy0,hy1⟩;have e2:IntKind.i64.wrap (1+x2)=1+x2:=w64 (by omega);simp only[id,seval,ptr,e2,ZI];(refine hk _ ?_;clear hk k;try show Sat _ _ _ _ _);(repeat refine Qc ?_);refine Qe rfl (fun h=>?_) (fun h=>?_)
 ·have h1:f<3:=by simp only[decide_eq_true_eq] at h;omega
  have e3:IntKind.i64.wrap ((f:Int)+1)=((f+1:Nat):Int):=by rw[w64 (by omega)];omega
  refine Sat.skip ?_;simp only[Qf];(repeat refine Qc ?_);refine Sat.block ?_;(repeat refine Qc ?_);(refine Qa fun k hk=>?_;simp only[id,seval,ptr,ZI];refine hk _ ?_;clear hk k;try show Sat _ _ _ _ _);(repeat refine Qc ?_);(refine Qa fun k hk=>?_;simp only[id,seval,ptr,ZI];refine hk _ ?_;clear hk k;try show Sat _ _ _ _ _);refine Q1 6 25 1 (adRd []) rfl ?_;(repeat refine Qc ?_);refine Sat.block ?_;refine Qo (ι:=Nat×Option Addr×Nat×List Int) (fun z=>⟨74,[(7,.i .i64 z.1),(6,.os 3 z.2.1 z.2.2.2.length z.2.2.1),(5,.i .i64 f),(4,.i .i64 lg),(3,.op 1 b3 0),(2,.op 0 b2 0),(0,.v (.pointer (some ⟨cb,0,none⟩)))],[Own.box b2 79 [.i .i64 0,.i .u32 0,.i .i64 0,.sl none 0 0 0 fun _ _=>.v undef,.i .u32 0],.box b3 79 [.i .i64 v,.i .u32 d,.i .i64 p,.os 2 a l.length c,.i .u32 u],.row a 83 l.length c 1 (psRd l),.row z.2.1 25 z.2.2.2.length z.2.2.1 1 (adRd z.2.2.2)]⟩)
   (fun z=>z.2.2.2.length=z.1∧z.1≤lg∧∀ x∈z.2.2.2,InA x) (fun z=>lg - z.1) (0,none,0,[]) ⟨rfl,by simp,fun q h=>by cases h⟩ (by simp only[id,seval,ptr,qb145];first|rfl|trace_state) ?_
  rintro⟨i,pa,pc,pl⟩ ⟨hpl,hi3,hpi⟩;simp only at hpl hi3 hpi ⊢;(repeat refine Qc ?_);(refine Qa fun k hk=>?_;simp only[id,seval,ptr,ZI];refine hk _ ?_;clear hk k;try show Sat _ _ _ _ _);(repeat refine Qc ?_);refine Qe rfl (fun h=>?_) (fun h=>?_)
  ·have h2:i<lg:=by simp only[decide_eq_true_eq] at h;omega
   have e4:IntKind.i64.wrap ((i:Int)+1)=((i+1:Nat):Int):=by rw[w64 (by omega)];omega
   refine Sat.skip ?_;simp only[Qf];(repeat refine Qc ?_);refine Sat.block ?_;(repeat refine Qc ?_);(refine Qa fun k hk=>?_;simp only[id,seval,ptr,ZI]);refine Qd (addrC cb) rfl plain_addrC ?_;rintro r ⟨y,hy,rfl⟩;simp only[id,seval,ptr,ZI];(refine hk _ ?_;clear hk k;try show Sat _ _ _ _ _);(repeat refine Qc ?_);(refine Qa fun k hk=>?_;simp only[id,seval,ptr,ZI]);refine Qd (boolC cb 6 (by decide) (by decide)) rfl Xd ?_;rintro r ⟨q6,rfl⟩;simp only[id,seval,ptr,ZI];(refine hk _ ?_;clear hk k;try show Sat _ _ _ _ _);(repeat refine Qc ?_);refine QT (ι:=Int) (fun w=>⟨74,[(8,.i .u32 w),(7,.i .i64 i),(6,.os 3 pa pl.length pc),(5,.i .i64 f),(4,.i .i64 lg),(3,.op 1 b3 0),(2,.op 0 b2 0),(0,.v (.pointer (some ⟨cb,0,none⟩)))],[Own.box b2 79 [.i .i64 0,.i .u32 0,.i .i64 0,.sl none 0 0 0 fun _ _=>.v undef,.i .u32 0],.box b3 79 [.i .i64 v,.i .u32 d,.i .i64 p,.os 2 a l.length c,.i .u32 u],.row a 83 l.length c 1 (psRd l),.row pa 25 pl.length pc 1 (adRd pl)]⟩) InA ?_ ?_
   ·refine Qe rfl (fun h=>?_) (fun h=>?_)
    ·(refine Qa fun k hk=>?_;simp only[id,seval,ptr,ZI]);refine hk _ ?_;simp only[Qf];refine⟨0,⟨by omega,by omega⟩,?_⟩;simp only[id,seval,ptr,qb145]
    ·refine Sat.skip ?_;simp only[Qf];refine⟨y,hy,?_⟩;simp only[id,seval,ptr,qb145]
   intro w hw;simp only[Qf];(repeat refine Qc ?_);obtain⟨q,hq⟩:∃ q,q=l.getD 0 default:=⟨_,rfl⟩;have hqs:psRd l 0 0=.sl q.a q.p.length q.cap 1 (adRd q.p):=by rw[hq];rfl
   refine QT (ι:=Bool) (fun b=>⟨74,[(55,.b b),(8,.i .u32 w),(7,.i .i64 i),(6,.os 3 pa pl.length pc),(5,.i .i64 f),(4,.i .i64 lg),(3,.op 1 b3 0),(2,.op 0 b2 0),(0,.v (.pointer (some ⟨cb,0,none⟩)))],[Own.box b2 79 [.i .i64 0,.i .u32 0,.i .i64 0,.sl none 0 0 0 fun _ _=>.v undef,.i .u32 0],.box b3 79 [.i .i64 v,.i .u32 d,.i .i64 p,.os 2 a l.length c,.i .u32 u],.row a 83 l.length c 1 (psRd l),.row pa 25 pl.length pc 1 (adRd pl)]⟩) (fun b=>b=true→0<f∧i<q.p.length) ?_ ?_
   ·(refine Qa fun k hk=>?_;simp only[id,reduceCtorEq,reduceIte,Nat.reduceMul,Nat.reduceAdd,Nat.reduceLT,Nat.reduceLeDiff,Nat.reduceEqDiff,Int.reduceLT,Int.reduceBEq,Int.reduceBNe,Nat.reduceBEq,ptr,Int.reduceToNat,ZI]);simp only[id,reduceCtorEq,reduceIte,Nat.reduceMul,Nat.reduceAdd,Nat.reduceLT,Nat.reduceLeDiff,Nat.reduceEqDiff,Int.reduceLT,Int.reduceBEq,Int.reduceBNe,Nat.reduceBEq,ptr,Int.reduceToNat,hqs,ZI];refine⟨fun g1=>⟨⟨by omega,by omega⟩,by omega,fun g2=>?_,fun g2=>hk _ ?_⟩,fun g1=>hk _ ?_⟩
    ·refine Qd (boolC cb 3 (by decide) (by decide)) rfl Xd ?_;rintro r ⟨q7,rfl⟩;simp only[id,seval,ptr,ZI];refine hk _ ?_;simp only[Qf];refine⟨!q7,fun _=>⟨by omega,by omega⟩,?_⟩;simp only[id,seval,ptr,qb145]
    ·simp only[Qf];refine⟨false,fun h=>(by cases h),?_⟩;simp only[id,seval,ptr,qb145]
    ·simp only[Qf];refine⟨false,fun h=>(by cases h),?_⟩;simp only[id,seval,ptr,qb145]
   intro b hb;simp only[Qf];(repeat refine Qc ?_);refine QT (ι:=Int) (fun w2=>⟨74,[(8,.i .u32 w2),(7,.i .i64 i),(6,.os 3 pa pl.length pc),(5,.i .i64 f),(4,.i .i64 lg),(3,.op 1 b3 0),(2,.op 0 b2 0),(0,.v (.pointer (some ⟨cb,0,none⟩)))],[Own.box b2 79 [.i .i64 0,.i .u32 0,.i .i64 0,.sl none 0 0 0 fun _ _=>.v undef,.i .u32 0],.box b3 79 [.i .i64 v,.i .u32 d,.i .i64 p,.os 2 a l.length c,.i .u32 u],.row a 83 l.length c 1 (psRd l),.row pa 25 pl.length pc 1 (adRd pl)]⟩) InA ?_ ?_
   ·refine Qe rfl (fun h=>?_) (fun h=>?_)
    ·obtain⟨g1,g2⟩:=hb h;(refine Qa fun k hk=>?_;simp only[id,reduceCtorEq,reduceIte,Nat.reduceMul,Nat.reduceAdd,Nat.reduceLT,Nat.reduceLeDiff,Nat.reduceEqDiff,Int.reduceLT,Int.reduceBEq,Int.reduceBNe,Nat.reduceBEq,ptr,Int.reduceToNat,ZI]);simp only[id,reduceCtorEq,reduceIte,Nat.reduceMul,Nat.reduceAdd,Nat.reduceLT,Nat.reduceLeDiff,Nat.reduceEqDiff,Int.reduceLT,Int.reduceBEq,Int.reduceBNe,Nat.reduceBEq,ptr,Int.reduceToNat,hqs,ZI];refine⟨⟨by omega,by omega⟩,by omega,by omega,?_⟩;refine hk _ ?_;simp only[Qf];refine⟨q.p.getD i 0,?_,?_⟩
     ·exact (hl q (by rw[hq];exact Q3 (by omega))).2 _ (Q3 g2)
     ·simp only[id,seval,ptr,qb145];rfl
    ·refine Sat.skip ?_;simp only[Qf];refine⟨w,hw,?_⟩;simp only[id,seval,ptr,qb145]
   intro w2 hw2;simp only[Qf,Qg];(repeat refine Qc ?_);(refine Qa fun k hk=>?_;simp only[id,seval,ptr,ZI]);intro b9;refine⟨⟨by unfold maxLen;omega,by omega⟩,fun a2 cap2=>?_⟩;(refine hk _ ?_;clear hk k;try show Sat _ _ _ _ _);refine Qa fun k hk=>?_;simp only[id,seval,ptr,e4,ZI];refine hk _ ?_;simp only[Qf,Qg];refine⟨(i+1,a2,cap2,pl ++ [w2]),⟨by simp;omega,by simp only;omega,fun x hx=>?_⟩,by simp only;omega,?_⟩
   ·rcases List.mem_append.1 hx with h|h
    ·exact hpi x h
    ·simp only[List.mem_singleton] at h;subst h;exact hw2
   ·simp only[List.length_append,List.length_singleton];simp only[id,seval,ptr,qb145];exact ad_app
  ·refine Sat.exit ?_;simp only[Qf,Qg,reduceIte];refine Zo 6 rfl rfl ?_;simp only[id,seval,ptr,ZI];(refine Qa fun k hk=>?_;simp only[id,seval,ptr,ZI]);intro b9;refine⟨⟨by unfold maxLen;omega,by omega⟩,fun a2 cap2=>?_⟩;(refine hk _ ?_;clear hk k;try show Sat _ _ _ _ _);refine Qa fun k hk=>?_;simp only[id,seval,ptr,e3,ZI];refine hk _ ?_;simp only[Qf,Qg];refine⟨(f+1,a2,cap2,l ++ [⟨pa,pc,pl⟩]),⟨by simp;omega,by simp only;omega,fun x hx=>?_⟩,by simp only;omega,?_⟩
   ·rcases List.mem_append.1 hx with h|h
    ·exact hl x h
    ·simp only[List.mem_singleton] at h;subst h;exact⟨by simp only;omega,hpi⟩
   ·simp only[List.length_append,List.length_singleton];simp only[id,seval,ptr,qb145];exact ps_app rfl
 ·refine Sat.exit ?_;simp only[Qf,Qg,reduceIte]
  have hf0:0<f:=by
   simp only[decide_eq_false_iff_not] at h;omega
  (repeat refine Qc ?_);(refine Qa fun k hk=>?_;simp only[id,seval,ptr,ZI]);(refine hk _ ?_;clear hk k;try show Sat _ _ _ _ _);refine Sat.ret ?_;simp only[Tryz.results41,id,seval,ptr,qb144];refine⟨⟨v,d,p,a,c,l,u⟩,_,⟨hv,hd,hu,⟨by simp only;omega,by simp only;omega⟩,hl,hdn,hpr⟩,rfl,fun j hj=>?_⟩;rcases (show j=0∨j=1∨j=2∨j=3∨j=4 by omega) with rfl|rfl|rfl|rfl|rfl<;>simp only[id,seval,ptr,Net.cs,ZI]
end

section
open Go.Sort Eng
def netRd (ns:List Net):Nat→Nat→SV:=fun i j=>(Net.cs (ns.getD i default)).getD j default
theorem net_one (ns:List Net) (i j:Nat) (h:j<5):XA (netRd ns i j)=true:=by
 rcases (show j=0∨j=1∨j=2∨j=3∨j=4 by omega) with rfl|rfl|rfl|rfl|rfl<;>rfl
theorem net_one1 {n:Net} {cs:List SV} (h:cs=n.cs):rdEq 1 5 (rdL cs 5) (netRd [n]):=by
 subst h;intro i j hi hj;obtain rfl:i=0:=by omega
 unfold rdL netRd;simp
theorem net_two {n m:Net}:rdEq 2 5 (Zb 1 (rdL n.cs 5) (rdL m.cs 5)) (netRd [n,m]):=by
 intro i j hi hj;rcases (show i=0∨i=1 by omega) with rfl|rfl<;>simp [Zb,rdL,netRd]
def Net.with (n m:Net):Net:=⟨n.v,n.d,n.pr,m.a,m.cap,m.l,n.last⟩
theorem NetOk.with {n m:Net} (h:NetOk n) (g:NetOk m):NetOk (n.with m):=⟨h.v,h.d,h.last,g.some,g.ps,h.d0,h.pr⟩
theorem net_set {ns:List Net} {i N:Nat} {m:Net} (hi:i<ns.length):rdEq N 5 (Z8 (netRd ns) i 3 [.sl m.a m.l.length m.cap 1 (psRd m.l)]) (netRd (ns.set i ((ns.getD i default).with m))):=by
 intro p j hp hj;unfold Z8 netRd;by_cases e:p=i
 ·subst e;have hg:(ns.set p ((ns.getD p default).with m)).getD p default=(ns.getD p default).with m:=by simp [List.getD,hi]
  rw[hg];rcases (show j=0∨j=1∨j=2∨j=3∨j=4 by omega) with rfl|rfl|rfl|rfl|rfl<;>simp [Net.cs,Net.with]
 ·have hg:(ns.set i ((ns.getD i default).with m)).getD p default=ns.getD p default:=by simp [List.getD,Ne.symm e]
  rw[hg,if_neg (fun h=>e h.1)]
theorem res_appS {ys:List Res} {x:Res} {cs:List SV} (h:simA cs (Res.cs x)):∀ i j,i<ys.length+1→j<17→sim (Zb ys.length (Qk ys.toArray) (rdL cs 17) i j) (Qk (ys ++ [x]).toArray i j):=by
 intro i j hi hj;unfold Zb;by_cases e:i<ys.length
 ·rw[if_pos e]
  have:Qk ys.toArray i j=Qk (ys ++ [x]).toArray i j:=by unfold Qk;simp [getElem!_def,List.getElem?_append,e]
  rw[this];exact QE _
 ·obtain rfl:i=ys.length:=by omega
  rw[if_neg e];have e1:Qk (ys ++ [x]).toArray ys.length j=(Res.cs x).getD j default:=by unfold Qk;simp [getElem!_def]
  have e2:rdL cs 17 (ys.length - ys.length) j=cs.getD j default:=by unfold rdL;simp
  rw[e1,e2];exact simA_getD h j
structure RltI (xs:List Res) (n0 n1:Nat):Prop where
 inr:∀ r∈xs,RgR r
 num:∀ r∈xs,(r.vantage=0∧r.number<n0)∨(r.vantage=1∧r.number<n1)
 own:∀ r∈xs,∀ s∈xs,r.vantage=s.vantage→r.number=s.number→r=s
 val:∀ r∈xs,QH r=true
 nd:xs.Pairwise fun r s=>¬ (r.vantage=s.vantage∧r.number=s.number)
 nn:∀ r∈xs,InA r.from_
theorem RltI.nil:RltI [] 0 0:=⟨fun r h=>(by cases h),fun r h=>(by cases h),fun r h=>(by cases h),fun r h=>(by cases h),.nil,fun r h=>(by cases h)⟩
theorem RltI.snoc0 {xs:List Res} {n0 n1:Nat} {r:Res} (h:RltI xs n0 n1) (hr:RgR r) (hnn:InA r.from_) (hval:QH r=true) (hv:r.vantage=0) (hn:r.number=n0):RltI (xs ++ [r]) (n0+1) n1:=by
 refine⟨fun s hs=>?_,fun s hs=>?_,fun s hs t ht e1 e2=>?_,fun s hs=>?_,?_,fun s hs=>(List.mem_append.1 hs).elim (h.nn s) fun hs=>by rw[List.mem_singleton.1 hs];exact hnn⟩
 ·rcases List.mem_append.1 hs with hs|hs
  ·exact h.inr s hs
  ·rw[List.mem_singleton.1 hs];exact hr
 ·rcases List.mem_append.1 hs with hs|hs
  ·rcases h.num s hs with ⟨a,b⟩|⟨a,b⟩
   ·exact .inl ⟨a,by omega⟩
   ·exact .inr ⟨a,b⟩
  ·rw[List.mem_singleton.1 hs];exact .inl ⟨hv,by omega⟩
 ·rcases List.mem_append.1 hs with hs|hs<;>rcases List.mem_append.1 ht with ht|ht
  ·exact h.own s hs t ht e1 e2
  ·rw[List.mem_singleton.1 ht] at e1 e2;rcases h.num s hs with ⟨a,b⟩|⟨a,b⟩<;>omega
  ·rw[List.mem_singleton.1 hs] at e1 e2;rcases h.num t ht with ⟨a,b⟩|⟨a,b⟩<;>omega
  ·rw[List.mem_singleton.1 hs,List.mem_singleton.1 ht]
 ·rcases List.mem_append.1 hs with hs|hs
  ·exact h.val s hs
  ·rw[List.mem_singleton.1 hs];exact hval
 ·refine List.pairwise_append.2 ⟨h.nd,List.pairwise_singleton _ _,fun s hs t ht e=>?_⟩;rw[List.mem_singleton.1 ht] at e;rcases h.num s hs with ⟨a,b⟩|⟨a,b⟩<;>omega
theorem RltI.snoc1 {xs:List Res} {n0 n1:Nat} {r:Res} (h:RltI xs n0 n1) (hr:RgR r) (hnn:InA r.from_) (hval:QH r=true) (hv:r.vantage=1) (hn:r.number=n1):RltI (xs ++ [r]) n0 (n1+1):=by
 refine⟨fun s hs=>?_,fun s hs=>?_,fun s hs t ht e1 e2=>?_,fun s hs=>?_,?_,fun s hs=>(List.mem_append.1 hs).elim (h.nn s) fun hs=>by rw[List.mem_singleton.1 hs];exact hnn⟩
 ·rcases List.mem_append.1 hs with hs|hs
  ·exact h.inr s hs
  ·rw[List.mem_singleton.1 hs];exact hr
 ·rcases List.mem_append.1 hs with hs|hs
  ·rcases h.num s hs with ⟨a,b⟩|⟨a,b⟩
   ·exact .inl ⟨a,b⟩
   ·exact .inr ⟨a,by omega⟩
  ·rw[List.mem_singleton.1 hs];exact .inr ⟨hv,by omega⟩
 ·rcases List.mem_append.1 hs with hs|hs<;>rcases List.mem_append.1 ht with ht|ht
  ·exact h.own s hs t ht e1 e2
  ·rw[List.mem_singleton.1 ht] at e1 e2;rcases h.num s hs with ⟨a,b⟩|⟨a,b⟩<;>omega
  ·rw[List.mem_singleton.1 hs] at e1 e2;rcases h.num t ht with ⟨a,b⟩|⟨a,b⟩<;>omega
  ·rw[List.mem_singleton.1 hs,List.mem_singleton.1 ht]
 ·rcases List.mem_append.1 hs with hs|hs
  ·exact h.val s hs
  ·rw[List.mem_singleton.1 hs];exact hval
 ·refine List.pairwise_append.2 ⟨h.nd,List.pairwise_singleton _ _,fun s hs t ht e=>?_⟩;rw[List.mem_singleton.1 ht] at e;rcases h.num s hs with ⟨a,b⟩|⟨a,b⟩<;>omega
theorem w64_inA {x:Int} (h:InA x):w64i x=x:=w64 ⟨by have:=h.1;omega,by have:=h.2;omega⟩
def AnsOk (b8 b9:Bool) (fr kind left id quo:Int):Prop:=
 (b8=true∧fr≠0∧(1≤kind∧kind≤5)∧left=60∧(0≤id∧id≤65535)∧quo=1)∨(b8=false∧b9=false∧fr=0∧kind=0∧left=0∧id=0∧quo=0)
theorem rlt_valid {v num at' d pr fl ttl back fr kind left id quo:Int} {b8 b9:Bool} (hv:0≤v∧v≤1) (hn:0≤num∧num<1000) (ha:0≤at'∧at'≤back∧back≤1000000) (hd:d≠0) (hp:pr=17∨pr=1∨pr=6) (hf:0≤fl∧fl≤3) (ht:1≤ttl∧ttl≤4) (h:AnsOk b8 b9 fr kind left id quo) :
  QH ⟨v,0,num,at',d,pr,fl,ttl,b8,b9,back,fr,kind,0,left,id,quo⟩=true:=by
 have h1:QR ⟨v,0,num,at',d,pr,fl,ttl,b8,b9,back,fr,kind,0,left,id,quo⟩=false:=by
  unfold QR idOk;simp;omega
 have h2:ZD ⟨v,0,num,at',d,pr,fl,ttl,b8,b9,back,fr,kind,0,left,id,quo⟩=false:=by
  unfold ZD;simp;omega
 unfold QH chk;rw[h1,h2];rcases h with ⟨rfl,hf,hk,rfl,hi,rfl⟩|⟨rfl,rfl,rfl,rfl,rfl,rfl,rfl⟩
 ·have h3:ZA ⟨v,0,num,at',d,pr,fl,ttl,true,b9,back,fr,kind,0,60,id,1⟩=false:=rfl
  have h4:QK ⟨v,0,num,at',d,pr,fl,ttl,true,b9,back,fr,kind,0,60,id,1⟩=false:=by
   unfold QK octOk;simp;omega
  rw[h3,h4];simp [hd,hf]
 ·have h3:ZA ⟨v,0,num,at',d,pr,fl,ttl,false,false,back,0,0,0,0,0,0⟩=false:=rfl;have h4:QK ⟨v,0,num,at',d,pr,fl,ttl,false,false,back,0,0,0,0,0,0⟩=false:=rfl;rw[h3,h4];simp [hd]
structure RlP where
 k:Nat
 at_:Int
 id:Int
 na:Option Addr
 nc:Nat
 ns:List Net
 ra:Option Addr
 rc:Nat
 xs:List Res
 n0:Nat
 n1:Nat
def QO (n0 n1:Nat):List SV:=[.i .i64 n0,.i .i64 n1,.i .i64 0,.i .i64 0,.i .i64 0,.i .i64 0,.i .i64 0,.i .i64 0,.i .i64 0,.i .i64 0,.i .i64 0,.i .i64 0,.i .i64 0,.i .i64 0,.i .i64 0,.i .i64 0]
def QJ (st:Bool) (cb most:Nat) (k:Nat) (at' id:Int) (bn:Nat) (ra:Option Addr) (rc rn:Nat) (na:Option Addr) (nc nn:Nat):List (Nat×SV):=
 [(12,.i .i64 k),(11,.op 1 bn 0),(10,.i .i64 id),(9,.i .i64 at'),(8,.os 2 ra rn rc),(7,.os 0 na nn nc),(0,.v (.pointer (some ⟨cb,0,none⟩))),(1,.i .i64 most),(2,.b st)]
def QI (bn:Nat) (na:Option Addr) (nc:Nat) (ns:List Net) (ra:Option Addr) (rc:Nat) (xs:List Res) (n0 n1:Nat) (more:List Eng.Own):List Eng.Own:=
 .row na 79 ns.length nc 5 (netRd ns) :: .box bn 82 (QO n0 n1) :: .row ra 62 xs.length rc 17 (Qk xs.toArray) :: more
def RlOk (most m:Nat) (z:RlP):Prop:=z.xs.length+z.k≤most∧z.ns.length=m∧(∀ n∈z.ns,NetOk n)∧RltI z.xs z.n0 z.n1∧z.n0≤z.xs.length∧z.n1≤z.xs.length∧(0≤z.at_∧z.at_≤50+70 * z.xs.length)∧(0≤z.id∧z.id≤70000+5 * z.xs.length)
def Zu (v num at' d pr fl ttl:Int) (s8 s9:SV) (back fr kind left id quoted:Int):List SV:=[.i .i64 v,.i .i64 0,.i .i64 num,.i .i64 at',.i .u32 d,.i .i64 pr,.i .i64 fl,.i .i64 ttl,s8,s9,.i .i64 back,.i .u32 fr,.i .i64 kind,.i .i64 0,.i .i64 left,.i .i64 id,.i .i64 quoted]
def QN (b14 b17:Nat) (n:Net) (cs:List SV):List Eng.Own:=[.box b14 79 [.i .i64 n.v,.i .u32 n.d,.i .i64 n.pr,.sl n.a n.l.length n.cap 1 (psRd n.l),.i .u32 n.last],.box b17 62 cs]
def Zd:=And.intro @evr (And.intro @Qm (And.intro @net_one (@evn)))
def qb147:=And.intro @evr (And.intro @Qm (And.intro @net_one (And.intro @evl (@evn))))
def qb148:=And.intro @evr (And.intro @Qm (And.intro @List.append_nil.{0} (And.intro @Int.toNat_zero (And.intro @Nat.sub_self (@net_one)))))
set_option maxRecDepth 100000 in
set_option maxHeartbeats 4000000 in
theorem resultsC (st:Bool) (cb:Nat) (most:Nat) (hm:most≤1000) :
  ContractN (Frm.codes cb) Tryz.prog 9 [ptr cb,.i .i64 most,.b st] (fun o=>∃ (a:Option Addr) (cap:Nat) (xs:List Res) (n0 n1:Nat),RltI xs n0 n1∧xs.length≤most∧o=Qb a xs.length cap xs.toArray):=by
 refine Zh Tryz.func9 rfl (by kernel_rfl) ?_;simp only[Tryz.ntmps9,Qt,ptr];(repeat refine Qc ?_);(refine Qa fun k hk=>?_;simp only[id,seval,ptr,Qb,QJ,QI,QO,Zu,QN,Zd];refine hk _ ?_;clear hk k;try show Sat _ _ _ _ _);(repeat refine Qc ?_);(refine Qa fun k hk=>?_;simp only[id,seval,ptr,Qb,QJ,QI,QO,Zu,QN,Zd]);refine Q2 (sceneC cb) rfl rfl ?_;rintro r ⟨n,f,hn,rfl,hf⟩;have f0:f 0=.i .i64 n.v:=hf 0 (by omega);have f1:f 1=.i .u32 n.d:=hf 1 (by omega);have f2:f 2=.i .i64 n.pr:=hf 2 (by omega);have f3:f 3=.sl n.a n.l.length n.cap 1 (psRd n.l):=hf 3 (by omega);have f4:f 4=.i .u32 n.last:=hf 4 (by omega);simp only[id,seval,ptr,Qb,QJ,QI,QO,Zu,QN,f0,f1,f2,f3,f4,Zd];intro b7;(refine hk _ ?_;clear hk k;try show Sat _ _ _ _ _);(repeat refine Qc ?_);(refine Qa fun k hk=>?_;simp only[id,seval,ptr,Qb,QJ,QI,QO,Zu,QN,Zd]);refine Qd (boolC cb 3 (by decide) (by decide)) rfl Xd ?_;rintro r ⟨q,rfl⟩;simp only[id,seval,ptr,Qb,QJ,QI,QO,Zu,QN,Zd];(refine hk _ ?_;clear hk k;try show Sat _ _ _ _ _);(repeat refine Qc ?_);refine QT (ι:=Option Addr×Nat×List Net) (fun z=>⟨175,[(7,.os 0 z.1 z.2.2.length z.2.1),(0,.v (.pointer (some ⟨cb,0,none⟩))),(1,.i .i64 most),(2,.b st)],[.row z.1 79 z.2.2.length z.2.1 5 (netRd z.2.2)]⟩) (fun z=>(1≤z.2.2.length∧z.2.2.length≤2)∧∀ m∈z.2.2,NetOk m) ?_ ?_
 ·refine Qe rfl (fun h=>?_) (fun h=>?_)
  ·(refine Qa fun k hk=>?_;simp only[id,seval,ptr,Qb,QJ,QI,QO,Zu,QN,Zd]);refine Q2 (sceneC cb) rfl rfl ?_;rintro r ⟨n2,g,hn2,rfl,hg⟩;have g0:g 0=.i .i64 n2.v:=hg 0 (by omega);have g1:g 1=.i .u32 n2.d:=hg 1 (by omega);have g2:g 2=.i .i64 n2.pr:=hg 2 (by omega);have g3:g 3=.sl n2.a n2.l.length n2.cap 1 (psRd n2.l):=hg 3 (by omega);have g4:g 4=.i .u32 n2.last:=hg 4 (by omega);simp only[id,seval,ptr,Qb,QJ,QI,QO,Zu,QN,g0,g1,g2,g3,g4,Zd];intro b8;refine⟨by unfold maxLen;omega,fun a2 cap2=>hk _ ?_⟩;simp only[Qf];refine⟨(a2,cap2,[n,n2]),⟨⟨by simp,by simp⟩,fun m hm=>?_⟩,?_⟩
   ·rcases List.mem_cons.1 hm with rfl|hm
    ·exact hn
    ·rw[List.mem_singleton.1 hm];exact hn2
   ·simp only[id,seval,ptr,Qb,QJ,QI,QO,Zu,QN,qb147];exact net_two
  ·refine Sat.skip ?_;simp only[Qf];refine⟨(some ⟨b7,0,none⟩,1,[n]),⟨⟨by simp,by simp⟩,fun m hm=>by rw[List.mem_singleton.1 hm];exact hn⟩,?_⟩;simp only[id,seval,ptr,Qb,QJ,QI,QO,Zu,QN,qb147];exact net_one1 rfl
 rintro⟨na,nc,ns⟩ ⟨hns,hnok⟩;simp only[Qf] at hns hnok ⊢;(repeat refine Qc ?_);(refine Qa fun k hk=>?_;simp only[id,seval,ptr,Qb,QJ,QI,QO,Zu,QN,Zd];refine hk _ ?_;clear hk k;try show Sat _ _ _ _ _);(repeat refine Qc ?_);(refine Qa fun k hk=>?_;simp only[id,seval,ptr,Qb,QJ,QI,QO,Zu,QN,Zd]);refine Qd (Zf cb 50 (by omega) (by omega)) rfl (by rintro _ ⟨x,rfl,_⟩;exact Qh rfl) ?_;rintro r ⟨at0,rfl,ha0,ha1⟩;simp only[id,seval,ptr,Qb,QJ,QI,QO,Zu,QN,Zd];refine Qd (Zf cb 700 (by omega) (by omega)) rfl (by rintro _ ⟨x,rfl,_⟩;exact Qh rfl) ?_;rintro r ⟨id0,rfl,hb0,hb1⟩;simp only[id,seval,ptr,Qb,QJ,QI,QO,Zu,QN,Zd];have ew0:IntKind.i64.wrap (100 * id0)=100 * id0:=w64 (by omega);obtain⟨id1,hid1,hid2,hid3⟩:∃ y,IntKind.i64.wrap (100 * id0)=y∧0≤y∧y≤70000:=⟨_,rfl,by rw[ew0];omega,by rw[ew0];omega⟩;simp only[hid1];clear ew0 hid1;(refine hk _ ?_;clear hk k;try show Sat _ _ _ _ _);(repeat refine Qc ?_);(refine Qa fun k hk=>?_;simp only[id,seval,ptr,Qb,QJ,QI,QO,Zu,QN,Zd]);intro bn;(refine hk _ ?_;clear hk k;try show Sat _ _ _ _ _);(repeat refine Qc ?_);have e1:IntKind.i64.wrap ((most:Int)+1)=(most:Int)+1:=w64 (by omega);(refine Qa fun k hk=>?_;simp only[id,seval,ptr,Qb,QJ,QI,QO,Zu,QN,Zd]);refine Qd (Zf cb ((most:Int)+1) (by omega) (by omega)) (by simp only[id,seval,ptr,Qb,QJ,QI,QO,Zu,QN,e1,Zd]) (by rintro _ ⟨x,rfl,_⟩;exact Qh rfl) ?_;rintro r ⟨x,rfl,hx0,hx1⟩;obtain⟨k0,rfl⟩:=Int.eq_ofNat_of_zero_le hx0;simp only[id,seval,ptr,Qb,QJ,QI,QO,Zu,QN,Zd];(refine hk _ ?_;clear hk k;try show Sat _ _ _ _ _);refine Q1 8 62 17 (Qk #[]) rfl ?_;simp only[id,seval,ptr,Qb,QJ,QI,QO,Zu,QN,Zd];refine Sat.block ?_;refine Qo (ι:=RlP) (fun z=>⟨175,QJ st cb most z.k z.at_ z.id bn z.ra z.rc z.xs.length z.na z.nc z.ns.length,QI bn z.na z.nc z.ns z.ra z.rc z.xs z.n0 z.n1 []⟩)
  (RlOk most ns.length) (fun z=>z.k) ⟨k0,at0,id1,na,nc,ns,none,0,[],0,0⟩ ⟨by simp only[List.length_nil];omega,rfl,hnok,RltI.nil,Nat.le_refl _,Nat.le_refl _,⟨by simp only;omega,by simp only;omega⟩,⟨by simp only;omega,by simp only;omega⟩⟩ (by simp only[id,seval,ptr,Qb,QJ,QI,QO,Zu,QN,qb147];first|rfl|trace_state) ?_
 have hm0:∃ m,m=ns.length:=⟨_,rfl⟩;obtain⟨m,hm0⟩:=hm0;rw[← hm0] at hns ⊢;clear hm0 hnok ns na nc;rintro⟨k1,at1,id2,na,nc,ns,ra,rc,xs,n0,n1⟩ ⟨hxk,hnl,hnok,hI,hn0,hn1,⟨hat0,hat1⟩,⟨hid0,hid1⟩⟩;simp only[QJ,QI,QO] at hxk hnl hnok hI hn0 hn1 hat0 hat1 hid0 hid1 ⊢;(repeat refine Qc ?_);(refine Qa fun k hk=>?_;simp only[id,seval,ptr,Qb,QJ,QI,QO,Zu,QN,Zd];refine hk _ ?_;clear hk k;try show Sat _ _ _ _ _);(repeat refine Qc ?_);refine Qe rfl (fun h=>?_) (fun h=>?_)
 ·have h0:0<k1:=by simp only[decide_eq_true_eq] at h;omega
  have e2:IntKind.i64.wrap ((k1:Int) - 1)=((k1 - 1:Nat):Int):=by rw[w64 (by omega)];omega
  refine Sat.skip ?_;simp only[Qf];(repeat refine Qc ?_);refine Sat.block ?_;(repeat refine Qc ?_);(refine Qa fun k hk=>?_;simp only[id,seval,ptr,Qb,QJ,QI,QO,Zu,QN,Zd]);refine Qd (Zf cb ns.length (by omega) (by omega)) (by simp only[id,seval,ptr,Qb,QJ,QI,QO,Zu,QN,Zd]) (by rintro _ ⟨x,rfl,_⟩;exact Qh rfl) ?_;rintro r ⟨x,rfl,hi0,hi1⟩;obtain⟨i,rfl⟩:=Int.eq_ofNat_of_zero_le hi0;have hi:i<ns.length:=by omega
  simp only[id,seval,ptr,Qb,QJ,QI,QO,Zu,QN,Zd];(refine hk _ ?_;clear hk k;try show Sat _ _ _ _ _);(repeat refine Qc ?_);refine Zg (ι:=Bool) (fun q=>⟨175,(51,.b q) :: (13,.i .i64 i) :: QJ st cb most k1 at1 id2 bn ra rc xs.length na nc ns.length,QI bn na nc ns ra rc xs n0 n1 []⟩) (fun _=>True) (fun hrest=>?_) ?_
  ·(refine Qa fun k hk=>?_;simp only[id,seval,ptr,Qb,QJ,QI,QO,Zu,QN,Zd]);refine⟨fun hs=>?_,fun hs=>?_⟩
   ·refine Qd (boolC cb 12 (by decide) (by decide)) rfl Xd ?_;rintro r ⟨q2,rfl⟩;simp only[id,seval,ptr,Qb,QJ,QI,QO,Zu,QN,Zd];refine hk _ ?_;simp only[Qf];refine (hrest q2 trivial).le ?_;simp only[QJ,QI,QO];simp only[id,seval,ptr,Qb,QJ,QI,QO,Zu,QN,qb147]
   ·refine hk _ ?_;simp only[Qf];refine (hrest false trivial).le ?_;simp only[QJ,QI,QO];simp only[id,seval,ptr,Qb,QJ,QI,QO,Zu,QN,qb147]
  rintro q2 -;simp only[QJ,QI,QO];(repeat refine Qc ?_);refine QT (ι:=List Net) (fun z=>⟨175,(13,.i .i64 i) :: QJ st cb most k1 at1 id2 bn ra rc xs.length na nc ns.length,QI bn na nc z ra rc xs n0 n1 []⟩) (fun z=>z.length=ns.length∧∀ n∈z,NetOk n) ?_ ?_
  ·refine Qe rfl (fun h=>?_) (fun h=>?_)
   ·(refine Qa fun k hk=>?_;simp only[id,seval,ptr,Qb,QJ,QI,QO,Zu,QN,Zd]);refine Q2 (sceneC cb) rfl rfl ?_;rintro r ⟨n2,g,hn2,rfl,hg⟩;have g3:g 3=.sl n2.a n2.l.length n2.cap 1 (psRd n2.l):=hg 3 (by omega);simp only[id,seval,ptr,Qb,QJ,QI,QO,Zu,QN,g3,Zd];refine⟨by omega,by omega,hk _ ?_⟩;simp only[Qf];refine⟨ns.set i ((ns.getD i default).with n2),⟨by simp,fun n hn=>?_⟩,?_⟩
    ·rcases List.mem_or_eq_of_mem_set hn with h|h
     ·exact hnok n h
     ·subst h;exact (hnok _ (Q3 hi)).with hn2
    ·simp only[QI,List.length_set];simp only[id,seval,ptr,Qb,QJ,QI,QO,Zu,QN,qb147];exact net_set hi
   ·refine Sat.skip ?_;simp only[Qf];refine⟨ns,⟨rfl,hnok⟩,?_⟩;simp only[id,seval,ptr,Qb,QJ,QI,QO,Zu,QN,qb147]
  intro zs;rintro⟨hzl,hzok⟩;simp only[Qf,QJ,QI,QO];rw[← hzl] at hnl hi ⊢;obtain⟨n,hn⟩:∃ n,n=zs.getD i default:=⟨_,rfl⟩;have hnk:NetOk n:=by rw[hn];exact hzok _ (Q3 hi)
  have p0:netRd zs i 0=.i .i64 n.v:=by rw[hn];rfl
  have p1:netRd zs i 1=.i .u32 n.d:=by rw[hn];rfl
  have p2:netRd zs i 2=.i .i64 n.pr:=by rw[hn];rfl
  have p3:netRd zs i 3=.sl n.a n.l.length n.cap 1 (psRd n.l):=by rw[hn];rfl
  have p4:netRd zs i 4=.i .u32 n.last:=by rw[hn];rfl
  have hnl1:=hnk.some;(repeat refine Qc ?_);(refine Qa fun k hk=>?_;simp only[id,seval,ptr,Qb,QJ,QI,QO,Zu,QN,Zd]);simp only[p0,p1,p2,p3,p4,id,seval,ptr,Qb,QJ,QI,QO,Zu,QN,qb148];refine⟨by omega,by omega,?_⟩;intro b14;(refine hk _ ?_;clear hk k;try show Sat _ _ _ _ _);(repeat refine Qc ?_);(refine Qa fun k hk=>?_;simp only[id,seval,ptr,Qb,QJ,QI,QO,Zu,QN,Zd]);refine Qd (Zf cb n.l.length (by omega) (by omega)) (by simp only[id,seval,ptr,Qb,QJ,QI,QO,Zu,QN,Zd]) (by rintro _ ⟨x,rfl,_⟩;exact Qh rfl) ?_;rintro r ⟨x,rfl,hf0,hf1⟩;obtain⟨fl,rfl⟩:=Int.eq_ofNat_of_zero_le hf0;have hfl:fl<n.l.length:=by omega
  simp only[id,seval,ptr,Qb,QJ,QI,QO,Zu,QN,Zd];(refine hk _ ?_;clear hk k;try show Sat _ _ _ _ _);obtain⟨pq,hpq⟩:∃ pq,pq=n.l.getD fl default:=⟨_,rfl⟩;have hps:psRd n.l fl 0=.sl pq.a pq.p.length pq.cap 1 (adRd pq.p):=by rw[hpq];rfl
  have hpok:=hnk.ps pq (by rw[hpq];exact Q3 hfl);have hpl3:=hpok.1;(repeat refine Qc ?_);(refine Qa fun k hk=>?_;simp only[id,seval,ptr,Qb,QJ,QI,QO,Zu,QN,Zd]);simp only[hps,id,seval,ptr,Qb,QJ,QI,QO,Zu,QN,qb148];refine⟨by omega,?_⟩;(refine hk _ ?_;clear hk k;try show Sat _ _ _ _ _);(repeat refine Qc ?_);(refine Qa fun k hk=>?_;simp only[id,seval,ptr,Qb,QJ,QI,QO,Zu,QN,Zd]);refine Qd (Zf cb 40 (by omega) (by omega)) rfl (by rintro _ ⟨x,rfl,_⟩;exact Qh rfl) ?_;rintro r ⟨x40,rfl,hc0,hc1⟩;simp only[id,seval,ptr,Qb,QJ,QI,QO,Zu,QN,Zd];have ew1:IntKind.i64.wrap (1+x40)=1+x40:=w64 (by omega);have ew2:IntKind.i64.wrap (at1+(1+x40))=at1+(1+x40):=w64 (by omega);obtain⟨at2,hat2,hat3,hat4⟩:∃ y,IntKind.i64.wrap (at1+IntKind.i64.wrap (1+x40))=y∧at1≤y∧y≤at1+40:=⟨_,rfl,by rw[ew1,ew2];omega,by rw[ew1,ew2];omega⟩;simp only[hat2];clear ew1 ew2 hat2;(refine hk _ ?_;clear hk k;try show Sat _ _ _ _ _);(repeat refine Qc ?_);refine QT (ι:=Int×Int×Nat) (fun z=>⟨175,(17,.op 4 z.2.2 0) :: (16,.sl pq.a pq.p.length pq.cap 1 (adRd pq.p)) :: (15,.i .i64 fl) :: (14,.op 3 b14 0) :: QJ st cb most k1 at2 id2 bn ra rc xs.length na nc zs.length,QI bn na nc zs ra rc xs n0 n1 (QN b14 z.2.2 n (Zu n.v z.1 at2 n.d n.pr fl z.2.1 (.b false) (.b false) 0 0 0 0 0 0))⟩)
   (fun z=>(1≤z.2.1∧z.2.1≤pq.p.length+1)∧((n.v=0∧z.1=n0)∨(n.v=1∧z.1=n1))) ?_ ?_
  ·have e5:IntKind.i64.wrap ((pq.p.length:Int)+1)=(pq.p.length:Int)+1:=w64 (by omega);rcases (show n.v=0∨n.v=1 by have:=hnk.v;omega) with hv|hv
   ·simp only[hv];(refine Qp (.keep [0,1,3,4,8,9,10,12,13,15,16,17,18,19,2,5,11,14,6,7] [20,21,22,23] (.alt 20 (.free 21 (.free 22 (.one 23 (.one 24 .done)))) (.alt 23 (.one 20 (.one 21 (.one 22 (.one 24 .done)))) .none))) (by kernel_rfl) (by kernel_rfl) (fun _ _ h=>h) fun k hk=>?_;simp only[WOT,List.map_cons,List.map_nil,List.getD_cons_zero,List.getD_cons_succ];simp only[id,reduceCtorEq,reduceIte,Nat.reduceMul,Nat.reduceAdd,Nat.reduceLT,Nat.reduceLeDiff,Nat.reduceEqDiff,Int.reduceLT,Int.reduceBEq,Int.reduceBNe,Nat.reduceBEq,ptr,Int.reduceToNat,Qb,QJ,QI,QO,Zu,QN,WOT,Zd]);simp only[id,reduceCtorEq,reduceIte,Nat.reduceMul,Nat.reduceAdd,Nat.reduceLT,Nat.reduceLeDiff,Nat.reduceEqDiff,Int.reduceLT,Int.reduceBEq,Int.reduceBNe,Nat.reduceBEq,ptr,Int.reduceToNat,Qb,QJ,QI,QO,Zu,QN,e5,Zd];refine⟨by omega,?_,?_⟩
    ·skip
     refine Qd (Zf cb ((pq.p.length:Int)+1) (by omega) (by omega)) rfl (by rintro _ ⟨x,rfl,_⟩;exact Qh rfl) ?_;rintro r ⟨x3,rfl,g0,g1⟩;have e6:IntKind.i64.wrap (1+x3)=1+x3:=w64 (by omega);simp only[id,seval,ptr,Qb,QJ,QI,QO,Zu,QN,e6,Zd];intro b17;refine hk _ ?_;simp only[Qf];refine⟨(n0,1+x3,b17),⟨⟨by simp only;omega,by simp only;omega⟩,.inl ⟨trivial,rfl⟩⟩,?_⟩;simp only[id,seval,ptr,Qb,QJ,QI,QO,Zu,QN,qb147];rw[hv]
    ·intro b17;refine Qd (Zf cb ((pq.p.length:Int)+1) (by omega) (by omega)) rfl (by rintro _ ⟨x,rfl,_⟩;exact Qh rfl) ?_;rintro r ⟨x3,rfl,g0,g1⟩;have e6:IntKind.i64.wrap (1+x3)=1+x3:=w64 (by omega);simp only[id,seval,ptr,Qb,QJ,QI,QO,Zu,QN,e6,Zd];refine hk _ ?_;simp only[Qf];refine⟨(n0,1+x3,b17),⟨⟨by simp only;omega,by simp only;omega⟩,.inl ⟨trivial,rfl⟩⟩,?_⟩;simp only[id,seval,ptr,Qb,QJ,QI,QO,Zu,QN,qb147];rw[hv]
   ·simp only[hv];(refine Qp (.keep [0,1,3,4,8,9,10,12,13,15,16,17,18,19,2,5,11,14,6,7] [20,21,22,23] (.alt 20 (.free 21 (.free 22 (.one 23 (.one 24 .done)))) (.alt 23 (.one 20 (.one 21 (.one 22 (.one 24 .done)))) .none))) (by kernel_rfl) (by kernel_rfl) (fun _ _ h=>h) fun k hk=>?_;simp only[WOT,List.map_cons,List.map_nil,List.getD_cons_zero,List.getD_cons_succ];simp only[id,reduceCtorEq,reduceIte,Nat.reduceMul,Nat.reduceAdd,Nat.reduceLT,Nat.reduceLeDiff,Nat.reduceEqDiff,Int.reduceLT,Int.reduceBEq,Int.reduceBNe,Nat.reduceBEq,ptr,Int.reduceToNat,Qb,QJ,QI,QO,Zu,QN,WOT,Zd]);simp only[id,reduceCtorEq,reduceIte,Nat.reduceMul,Nat.reduceAdd,Nat.reduceLT,Nat.reduceLeDiff,Nat.reduceEqDiff,Int.reduceLT,Int.reduceBEq,Int.reduceBNe,Nat.reduceBEq,ptr,Int.reduceToNat,Qb,QJ,QI,QO,Zu,QN,e5,Zd];refine⟨by omega,?_,?_⟩
    ·skip
     refine Qd (Zf cb ((pq.p.length:Int)+1) (by omega) (by omega)) rfl (by rintro _ ⟨x,rfl,_⟩;exact Qh rfl) ?_;rintro r ⟨x3,rfl,g0,g1⟩;have e6:IntKind.i64.wrap (1+x3)=1+x3:=w64 (by omega);simp only[id,seval,ptr,Qb,QJ,QI,QO,Zu,QN,e6,Zd];intro b17;refine hk _ ?_;simp only[Qf];refine⟨(n1,1+x3,b17),⟨⟨by simp only;omega,by simp only;omega⟩,.inr ⟨trivial,rfl⟩⟩,?_⟩;simp only[id,seval,ptr,Qb,QJ,QI,QO,Zu,QN,qb147];rw[hv]
    ·intro b17;refine Qd (Zf cb ((pq.p.length:Int)+1) (by omega) (by omega)) rfl (by rintro _ ⟨x,rfl,_⟩;exact Qh rfl) ?_;rintro r ⟨x3,rfl,g0,g1⟩;have e6:IntKind.i64.wrap (1+x3)=1+x3:=w64 (by omega);simp only[id,seval,ptr,Qb,QJ,QI,QO,Zu,QN,e6,Zd];refine hk _ ?_;simp only[Qf];refine⟨(n1,1+x3,b17),⟨⟨by simp only;omega,by simp only;omega⟩,.inr ⟨trivial,rfl⟩⟩,?_⟩;simp only[id,seval,ptr,Qb,QJ,QI,QO,Zu,QN,qb147];rw[hv]
  rintro⟨num,ttl,b17⟩ ⟨httl,hnum⟩;simp only[Qf,QJ,QI,QO,Zu,QN] at httl hnum ⊢;(repeat refine Qc ?_);refine QT (ι:=Nat×Nat) (fun z=>⟨175,(17,.op 4 b17 0) :: (16,.sl pq.a pq.p.length pq.cap 1 (adRd pq.p)) :: (15,.i .i64 fl) :: (14,.op 3 b14 0) :: QJ st cb most k1 at2 id2 bn ra rc xs.length na nc zs.length,QI bn na nc zs ra rc xs z.1 z.2 (QN b14 b17 n (Zu n.v num at2 n.d n.pr fl ttl (.b false) (.b false) 0 0 0 0 0 0))⟩)
   (fun z=>(n.v=0∧num=n0∧z.1=n0+1∧z.2=n1)∨(n.v=1∧num=n1∧z.1=n0∧z.2=n1+1)) ?_ ?_
  ·have e7:IntKind.i64.wrap ((n0:Int)+1)=((n0+1:Nat):Int):=by rw[w64 (by omega)];omega
   have e8:IntKind.i64.wrap ((n1:Int)+1)=((n1+1:Nat):Int):=by rw[w64 (by omega)];omega
   rcases hnum with ⟨hv,hnm⟩|⟨hv,hnm⟩
   ·simp only[hv];(refine Qa fun k hk=>?_;simp only[id,reduceCtorEq,reduceIte,Nat.reduceMul,Nat.reduceAdd,Nat.reduceLT,Nat.reduceLeDiff,Nat.reduceEqDiff,Int.reduceLT,Int.reduceBEq,Int.reduceBNe,Nat.reduceBEq,ptr,Int.reduceToNat,Qb,QJ,QI,QO,Zu,QN,Zd]);simp only[e7];refine⟨by omega,by omega,hk _ ?_⟩;simp only[Qf];refine⟨(n0+1,n1),.inl ⟨trivial,hnm,rfl,rfl⟩,?_⟩;simp only[id,seval,ptr,Qb,QJ,QI,QO,Zu,QN,qb147];simp only[hv]
   ·simp only[hv];(refine Qa fun k hk=>?_;simp only[id,reduceCtorEq,reduceIte,Nat.reduceMul,Nat.reduceAdd,Nat.reduceLT,Nat.reduceLeDiff,Nat.reduceEqDiff,Int.reduceLT,Int.reduceBEq,Int.reduceBNe,Nat.reduceBEq,ptr,Int.reduceToNat,Qb,QJ,QI,QO,Zu,QN,Zd]);simp only[e8];refine⟨by omega,by omega,hk _ ?_⟩;simp only[Qf];refine⟨(n0,n1+1),.inr ⟨trivial,hnm,rfl,rfl⟩,?_⟩;simp only[id,seval,ptr,Qb,QJ,QI,QO,Zu,QN,qb147];simp only[hv]
  rintro⟨m0,m1⟩ hnew;simp only[Qf,QJ,QI,QO,Zu,QN] at hnew ⊢;(repeat refine Qc ?_);refine QT (ι:=Int) (fun z=>⟨175,(17,.op 4 b17 0) :: (16,.sl pq.a pq.p.length pq.cap 1 (adRd pq.p)) :: (15,.i .i64 fl) :: (14,.op 3 b14 0) :: QJ st cb most k1 at2 id2 bn ra rc xs.length na nc zs.length,QI bn na nc zs ra rc xs m0 m1 (QN b14 b17 n (Zu n.v num at2 n.d n.pr fl ttl (.b false) (.b false) z 0 0 0 0 0))⟩) (fun z=>at2≤z∧z≤at2+23) ?_ ?_
  ·(refine Qp (.keep [0,2,6,1,3,4,5] [7] (.one 7 (.one 8 (.one 9 (.one 10 .done))))) (by kernel_rfl) (by kernel_rfl) (fun _ _ h=>h) fun k hk=>?_;simp only[WOT,List.map_cons,List.map_nil,List.getD_cons_zero,List.getD_cons_succ];simp only[id,seval,ptr,Qb,QJ,QI,QO,Zu,QN,WOT,Zd]);refine Qd (Zf cb 4 (by omega) (by omega)) rfl (by rintro _ ⟨x,rfl,_⟩;exact Qh rfl) ?_;rintro r ⟨x4,rfl,hd0,hd1⟩;have ew3:IntKind.i64.wrap (5 * ttl)=5 * ttl:=w64 (by omega);have ew4:IntKind.i64.wrap (at2+5 * ttl)=at2+5 * ttl:=w64 (by omega);have ew5:IntKind.i64.wrap (at2+5 * ttl+x4)=at2+5 * ttl+x4:=w64 (by omega);simp only[id,seval,ptr,Qb,QJ,QI,QO,Zu,QN,Zd];refine hk _ ?_;simp only[Qf];refine⟨IntKind.i64.wrap (IntKind.i64.wrap (at2+IntKind.i64.wrap (5 * ttl))+x4),⟨by rw[ew3,ew4,ew5];omega,by rw[ew3,ew4,ew5];omega⟩,?_⟩;simp only[id,seval,ptr,Qb,QJ,QI,QO,Zu,QN,qb147]
  rintro back ⟨hbk0,hbk1⟩;simp only[Qf,QJ,QI,QO,Zu,QN];(repeat refine Qc ?_);(refine Qa fun k hk=>?_;simp only[id,seval,ptr,Qb,QJ,QI,QO,Zu,QN,Zd]);refine Qd (Zf cb 5 (by omega) (by omega)) rfl (by rintro _ ⟨x,rfl,_⟩;exact Qh rfl) ?_;rintro r ⟨x5,rfl,hq0,hq1⟩;simp only[id,seval,ptr,Qb,QJ,QI,QO,Zu,QN,Zd];have ew6:IntKind.i64.wrap (1+x5)=1+x5:=w64 (by omega);have ew7:IntKind.i64.wrap (id2+(1+x5))=id2+(1+x5):=w64 (by omega);obtain⟨id3,hid5,hid6,hid7⟩:∃ y,IntKind.i64.wrap (id2+IntKind.i64.wrap (1+x5))=y∧0≤y∧y≤id2+5:=⟨_,rfl,by rw[ew6,ew7];omega,by rw[ew6,ew7];omega⟩;simp only[hid5];clear ew6 ew7 hid5;(refine hk _ ?_;clear hk k;try show Sat _ _ _ _ _);(repeat refine Qc ?_);(refine Qa fun k hk=>?_;simp only[id,seval,ptr,Qb,QJ,QI,QO,Zu,QN,Zd];refine hk _ ?_;clear hk k;try show Sat _ _ _ _ _);(repeat refine Qc ?_);(refine Qa fun k hk=>?_;simp only[id,seval,ptr,Qb,QJ,QI,QO,Zu,QN,Zd];refine hk _ ?_;clear hk k;try show Sat _ _ _ _ _);(repeat refine Qc ?_);refine QT (ι:=Int) (fun z=>⟨175,(18,.i .u32 z) :: (17,.op 4 b17 0) :: (16,.sl pq.a pq.p.length pq.cap 1 (adRd pq.p)) :: (15,.i .i64 fl) :: (14,.op 3 b14 0) :: QJ st cb most k1 at2 id3 bn ra rc xs.length na nc zs.length,QI bn na nc zs ra rc xs m0 m1 (QN b14 b17 n (Zu n.v num at2 n.d n.pr fl ttl (.b false) (.b false) back 0 0 0 0 0))⟩) InA ?_ ?_
  ·refine Qe rfl (fun h=>?_) (fun h=>?_)
   ·have h3:ttl≤pq.p.length:=by simpa using h
    have e9:IntKind.i64.wrap (ttl - 1)=ttl - 1:=w64 (by omega);(refine Qa fun k hk=>?_;simp only[id,seval,ptr,Qb,QJ,QI,QO,Zu,QN,Zd]);simp only[e9];refine⟨by omega,hk _ ?_⟩;simp only[Qf];refine⟨pq.p.getD (ttl - 1).toNat 0,hpok.2 _ (Q3 (by omega)),?_⟩;simp only[id,seval,ptr,Qb,QJ,QI,QO,Zu,QN,qb147];rfl
   ·refine Sat.skip ?_;simp only[Qf];refine⟨n.last,hnk.last,?_⟩;simp only[id,seval,ptr,Qb,QJ,QI,QO,Zu,QN,qb147]
  intro fr hfr;simp only[Qf,QJ,QI,QO,Zu,QN];(repeat refine Qc ?_);refine QT (ι:=Bool) (fun z=>⟨175,(142,.b z) :: (18,.i .u32 fr) :: (17,.op 4 b17 0) :: (16,.sl pq.a pq.p.length pq.cap 1 (adRd pq.p)) :: (15,.i .i64 fl) :: (14,.op 3 b14 0) :: QJ st cb most k1 at2 id3 bn ra rc xs.length na nc zs.length,QI bn na nc zs ra rc xs m0 m1 (QN b14 b17 n (Zu n.v num at2 n.d n.pr fl ttl (.b false) (.b false) back 0 0 0 0 0))⟩) (fun z=>z=true→fr≠0) ?_ ?_
  ·(refine Qa fun k hk=>?_;simp only[id,seval,ptr,Qb,QJ,QI,QO,Zu,QN,Zd]);refine⟨fun g1=>?_,fun g1=>hk _ ?_⟩
   ·refine Qd (boolC cb 5 (by decide) (by decide)) rfl Xd ?_;rintro r ⟨q5,rfl⟩;simp only[id,seval,ptr,Qb,QJ,QI,QO,Zu,QN,Zd];refine hk _ ?_;simp only[Qf];refine⟨!q5,fun _=>(by simpa using g1),?_⟩;simp only[id,seval,ptr,Qb,QJ,QI,QO,Zu,QN,qb147]
   ·simp only[Qf];refine⟨false,fun h9=>(by cases h9),?_⟩;simp only[id,seval,ptr,Qb,QJ,QI,QO,Zu,QN,qb147]
  intro ba hba;simp only[Qf,QJ,QI,QO,Zu,QN];(repeat refine Qc ?_);refine QT (ι:=SV×SV×Int×Int×Int×Int×Int) (fun z=>⟨175,(17,.op 4 b17 0) :: (16,.sl pq.a pq.p.length pq.cap 1 (adRd pq.p)) :: (15,.i .i64 fl) :: (14,.op 3 b14 0) :: QJ st cb most k1 at2 id3 bn ra rc xs.length na nc zs.length,QI bn na nc zs ra rc xs m0 m1 (QN b14 b17 n (Zu n.v num at2 n.d n.pr fl ttl (z.1) (z.2.1) back z.2.2.1 z.2.2.2.1 z.2.2.2.2.1 z.2.2.2.2.2.1 z.2.2.2.2.2.2))⟩) (fun z=>∃ b8 b9,sim z.1 (.b b8)∧sim z.2.1 (.b b9)∧XA z.1=true∧XA z.2.1=true∧InA z.2.2.1∧AnsOk b8 b9 z.2.2.1 z.2.2.2.1 z.2.2.2.2.1 z.2.2.2.2.2.1 z.2.2.2.2.2.2) ?_ ?_
  ·refine Qe rfl (fun h=>?_) (fun h=>?_)
   ·have hba1:ba=true:=h;(repeat refine Qc ?_);(refine Qa fun k hk=>?_;simp only[id,seval,ptr,Qb,QJ,QI,QO,Zu,QN,Zd]);refine Qd (boolC cb 30 (by decide) (by decide)) rfl Xd ?_;rintro r ⟨q30,rfl⟩;simp only[id,seval,ptr,Qb,QJ,QI,QO,Zu,QN,Zd];(refine hk _ ?_;clear hk k;try show Sat _ _ _ _ _);(repeat refine Qc ?_);(refine Qa fun k hk=>?_;simp only[id,reduceCtorEq,reduceIte,Nat.reduceMul,Nat.reduceAdd,Nat.reduceLT,Nat.reduceLeDiff,Nat.reduceEqDiff,Int.reduceLT,Int.reduceBEq,Int.reduceBNe,Nat.reduceBEq,ptr,Int.reduceToNat,Qb,QJ,QI,QO,Zu,QN,Zd]);obtain⟨id4,hid8,hid9,hid10⟩:∃ y,id3.tmod 65536=y∧0≤y∧y≤65535:=⟨_,rfl,Int.tmod_nonneg _ hid6,Int.le_of_lt_add_one (Int.tmod_lt_of_pos _ (by decide))⟩;simp only[hid8];clear hid8;refine⟨by decide,?_⟩;(refine hk _ ?_;clear hk k;try show Sat _ _ _ _ _);(repeat refine Qc ?_);(refine Qa fun k hk=>?_;simp only[id,seval,ptr,Qb,QJ,QI,QO,Zu,QN,Zd];refine hk _ ?_;clear hk k;try show Sat _ _ _ _ _);(repeat refine Qc ?_);refine QT (ι:=Int) (fun z=>⟨175,(17,.op 4 b17 0) :: (16,.sl pq.a pq.p.length pq.cap 1 (adRd pq.p)) :: (15,.i .i64 fl) :: (14,.op 3 b14 0) :: QJ st cb most k1 at2 id3 bn ra rc xs.length na nc zs.length,QI bn na nc zs ra rc xs m0 m1 (QN b14 b17 n (Zu n.v num at2 n.d n.pr fl ttl (.tt) (.b q30) back fr z 60 id4 1))⟩) (fun z=>1≤z∧z≤5) ?_ ?_
    ·refine Qe rfl (fun h=>?_) (fun h=>?_)
     ·(refine Qa fun k hk=>?_;simp only[id,seval,ptr,Qb,QJ,QI,QO,Zu,QN,Zd]);intro bp;refine Qd (pickI cb bp [3,3,2] (fun x=>1≤x∧x≤5) (by decide) (by decide) (by decide)) (by simp only[id,seval,ptr,Qb,QJ,QI,QO,Zu,QN,Zd]) plain_pick ?_;rintro r ⟨x,rfl,hxp⟩;simp only[id,seval,ptr,Qb,QJ,QI,QO,Zu,QN,Zd];refine hk _ ?_;simp only[Qf];refine⟨x,hxp,?_⟩;simp only[id,seval,ptr,Qb,QJ,QI,QO,Zu,QN,qb147]
     ·refine Sat.skip ?_;simp only[Qf];refine⟨1,⟨by decide,by decide⟩,?_⟩;simp only[id,seval,ptr,Qb,QJ,QI,QO,Zu,QN,qb147]
    rintro kind hkd;simp only[Qf,QJ,QI,QO,Zu,QN];(repeat refine Qc ?_);(refine Qa fun k hk=>?_;simp only[id,seval,ptr,Qb,QJ,QI,QO,Zu,QN,Zd]);refine Qd (boolC cb 5 (by decide) (by decide)) rfl Xd ?_;rintro r ⟨q6,rfl⟩;simp only[id,seval,ptr,Qb,QJ,QI,QO,Zu,QN,Zd];(refine hk _ ?_;clear hk k;try show Sat _ _ _ _ _);refine Qe rfl (fun h=>?_) (fun h=>?_)
    ·(refine Qa fun k hk=>?_;simp only[id,seval,ptr,Qb,QJ,QI,QO,Zu,QN,Zd]);refine Qd (Zf cb 65536 (by omega) (by omega)) rfl (by rintro _ ⟨x,rfl,_⟩;exact Qh rfl) ?_;rintro r ⟨x6,rfl,hg0,hg1⟩;simp only[id,seval,ptr,Qb,QJ,QI,QO,Zu,QN,Zd];refine hk _ ?_;simp only[Qf];refine⟨(.tt,.b q30,fr,kind,60,x6,1),⟨true,q30,sim_tt,QE _,rfl,rfl,hfr,.inl ⟨rfl,hba hba1,hkd,rfl,⟨hg0,by show x6≤65535;omega⟩,rfl⟩⟩,?_⟩;simp only[id,seval,ptr,Qb,QJ,QI,QO,Zu,QN,qb147]
    ·refine Sat.skip ?_;simp only[Qf];refine⟨(.tt,.b q30,fr,kind,60,id4,1),⟨true,q30,sim_tt,QE _,rfl,rfl,hfr,.inl ⟨rfl,hba hba1,hkd,rfl,⟨hid9,hid10⟩,rfl⟩⟩,?_⟩;simp only[id,seval,ptr,Qb,QJ,QI,QO,Zu,QN,qb147]
   ·refine Sat.skip ?_;simp only[Qf];refine⟨(.b false,.b false,0,0,0,0,0),⟨false,false,QE _,QE _,rfl,rfl,⟨by decide,by decide⟩,.inr ⟨rfl,rfl,rfl,rfl,rfl,rfl,rfl⟩⟩,?_⟩;simp only[id,seval,ptr,Qb,QJ,QI,QO,Zu,QN,qb147]
  rintro⟨s8,s9,fr2,kind,left,idv,quo⟩ ⟨b8,b9,hs8,hs9,ho8,ho9,hfr2,hans⟩;simp only[Qf,QJ,QI,QO,Zu,QN] at hs8 hs9 ho8 ho9 hfr2 hans ⊢;(repeat refine Qc ?_);(refine Qa fun k hk=>?_;simp only[id,seval,ptr,Qb,QJ,QI,QO,Zu,QN,Zd];refine hk _ ?_;clear hk k;try show Sat _ _ _ _ _);(repeat refine Qc ?_);(refine Qa fun k hk=>?_;simp only[id,seval,ptr,Qb,QJ,QI,QO,Zu,QN,Zd]);simp only[id,seval,ptr,Qb,QJ,QI,QO,Zu,QN,ho8,ho9,Zd];intro b18;refine⟨⟨by unfold maxLen;omega,by omega⟩,fun a2 cap2=>?_⟩;(refine hk _ ?_;clear hk k;try show Sat _ _ _ _ _);obtain⟨r,hr⟩:∃ r:Res,r=⟨n.v,0,num,at2,n.d,n.pr,fl,ttl,b8,b9,back,fr2,kind,0,left,idv,quo⟩:=⟨_,rfl⟩;refine Sat.reread 2 (Qk (xs ++ [r]).toArray) rfl ?_ ?_
  ·refine res_appS ?_;subst hr;simp only[Res.cs,simA];refine⟨?_,?_,?_,?_,?_,?_,?_,?_,?_,?_,?_,?_,?_,?_,?_,?_,?_,trivial⟩<;>first|exact QE _|exact hs8|exact hs9
  simp only[id,seval,ptr,Qb,QJ,QI,QO,Zu,QN,Zd];refine Qa fun k hk=>?_;simp only[id,seval,ptr,Qb,QJ,QI,QO,Zu,QN,e2,Zd];refine hk _ ?_;simp only[Qf,Qg];have hrg:RgR r:=by subst hr;exact⟨w64_inA hnk.d,w64_inA hfr2⟩
  have hnn:InA r.from_:=by subst hr;exact hfr2
  have hnum0:0≤num∧num<1000:=by rcases hnew with ⟨g1,g2,g3,g4⟩|⟨g1,g2,g3,g4⟩<;>omega
  have hnv:=hnk.v
  have hval:QH r=true:=by
   subst hr;exact rlt_valid hnk.v hnum0 ⟨by omega,by omega,by omega⟩ hnk.d0 hnk.pr ⟨by omega,by omega⟩ ⟨by omega,by omega⟩ hans
  have hI2:RltI (xs ++ [r]) m0 m1:=by
   rcases hnew with ⟨g1,g2,g3,g4⟩|⟨g1,g2,g3,g4⟩
   ·rw[g3,g4];exact hI.snoc0 hrg hnn hval (by subst hr;exact g1) (by subst hr;exact g2)
   ·rw[g3,g4];exact hI.snoc1 hrg hnn hval (by subst hr;exact g1) (by subst hr;exact g2)
  refine⟨⟨k1 - 1,back,id3,na,nc,zs,a2,cap2,xs ++ [r],m0,m1⟩,⟨by simp;omega,hnl,hzok,hI2,by simp;omega,by simp;omega,⟨by simp only;omega,by simp only[List.length_append,List.length_singleton];omega⟩,⟨by simp only;omega,by simp only[List.length_append,List.length_singleton];omega⟩⟩,by simp only;omega,?_⟩;simp only[List.length_append,List.length_singleton];simp only[id,seval,ptr,Qb,QJ,QI,QO,Zu,QN,qb147]
 ·have h0:k1=0:=by simp only[decide_eq_false_iff_not] at h;omega
  refine Sat.exit ?_;simp only[Qf,Qg,reduceIte];(repeat refine Qc ?_);(refine Qa fun k hk=>?_;simp only[id,seval,ptr,Qb,QJ,QI,QO,Zu,QN,Zd];refine hk _ ?_;clear hk k;try show Sat _ _ _ _ _);refine Sat.ret ?_;simp only[Tryz.results9,id,seval,ptr,Qb,QJ,QI,QO,Zu,QN,retN,retNK,newRow,qb148];exact⟨⟨rfl,rfl,rfl⟩,ra,rc,xs,n0,n1,hI,by omega,rfl⟩
end

section
open Go.Sort Eng
structure YP where
 a:Option Addr
 c:Nat
 l:List Res
instance:Inhabited YP:=⟨⟨none,0,[]⟩⟩
def YP.sv (e:YP):SV:=.sl e.a e.l.length e.c 17 (Qk e.l.toArray)
structure YOk (e:YP):Prop where
 rg:∀ r∈e.l,RgR r
 nn:∀ r∈e.l,InA r.from_
 len:e.l.length≤30
def badL (xs:List Res):Bool:=xs.any (fun x=>!QH x)
def prErr (xs:List Res):Int:=if badL xs=true then 1 else 0
def ExRes (xs:List Res) (es:List Exc):Prop:=(badL xs=true∧es=[])∨(badL xs=false∧ExcOf xs es)
def MtRes (xs:List Res) (es:List Evd):Prop:=(badL xs=true∧es=[])∨(badL xs=false∧MatOf xs es)
theorem ex_post {xs:List Res} {N:Nat} {r:SV} (h:(badL xs=true∧∃ rd,r=Xh [.sl none 0 0 0 rd,.i .i64 1])∨(badL xs=false∧∃ a cap es,ExcOf xs es∧es.length≤N∧r=Xh [.sl a es.length cap 8 (Zi es.toArray),.i .i64 0])) :
  ∃ r',sim r r'∧∃ a cap es,ExRes xs es∧es.length≤N∧r'=Xh [.sl a es.length cap 8 (Zi es.toArray),.i .i64 (prErr xs)]:=by
 rcases h with ⟨h,rd,rfl⟩|⟨h,a,cap,es,hp,hl,rfl⟩
 ·exact⟨_,sim_tup2 (sim_nil 0 8 rd (Zi #[])) (QE _),none,0,[],.inl ⟨h,rfl⟩,Nat.zero_le _,by unfold prErr;rw[if_pos h];rfl⟩
 ·exact⟨_,QE _,a,cap,es,.inr ⟨h,hp⟩,hl,by unfold prErr;rw[if_neg (by rw[h];decide)]⟩
theorem mt_post {xs:List Res} {N:Nat} {r:SV} (h:(badL xs=true∧∃ rd,r=Xh [.sl none 0 0 0 rd,.i .i64 1])∨(badL xs=false∧∃ a cap es,MatOf xs es∧es.length≤N∧r=Xh [.sl a es.length cap 4 (Xi es),.i .i64 0])) :
  ∃ r',sim r r'∧∃ a cap es,MtRes xs es∧es.length≤N∧r'=Xh [.sl a es.length cap 4 (Xi es),.i .i64 (prErr xs)]:=by
 rcases h with ⟨h,rd,rfl⟩|⟨h,a,cap,es,hp,hl,rfl⟩
 ·exact⟨_,sim_tup2 (sim_nil 0 4 rd (Xi [])) (QE _),none,0,[],.inl ⟨h,rfl⟩,Nat.zero_le _,by unfold prErr;rw[if_pos h];rfl⟩
 ·exact⟨_,QE _,a,cap,es,.inr ⟨h,hp⟩,hl,by unfold prErr;rw[if_neg (by rw[h];decide)]⟩
theorem exRes_same {xs:List Res} {es fs:List Exc} (h:ExRes xs es) (g:ExRes xs fs):es=fs:=by
 rcases h with ⟨h1,rfl⟩|⟨h1,h2⟩<;>rcases g with ⟨g1,rfl⟩|⟨g1,g2⟩
 ·rfl
 ·rw[h1] at g1;cases g1
 ·rw[h1] at g1;cases g1
 ·exact h2.unique g2 fun x=>Iff.rfl
theorem mtRes_same {xs:List Res} {es fs:List Evd} (h:MtRes xs es) (g:MtRes xs fs):es.map Evd.say=fs.map Evd.say:=by
 rcases h with ⟨h1,rfl⟩|⟨h1,h2⟩<;>rcases g with ⟨g1,rfl⟩|⟨g1,g2⟩
 ·rfl
 ·rw[h1] at g1;cases g1
 ·rw[h1] at g1;cases g1
 ·exact h2.same g2 fun r=>Iff.rfl
theorem mtRes_in {xs:List Res} {es:List Evd} (h:MtRes xs es) (hn:∀ r∈xs,InA r.from_):∀ e∈es,(InA e.a∧InA e.b)∧e.ids.length≤3:=by
 rcases h with ⟨_,rfl⟩|⟨_,h⟩
 ·exact fun e he=>(by cases he)
 ·intro e he;obtain⟨p,hp,a,ha,b,hb,_,c,hc,_,_,_,hE⟩:=(h.best.each e he).1;obtain⟨_,g1,g2,_⟩:=hE;have k1:=hn a (hp.sub a ha).1;have k2:=hn c hc;refine⟨?_,h.len e he⟩;rw[g1,g2];unfold InA at *;omega
theorem inA_ev {e:Evd} (ha:InA e.a) (hb:InA e.b) (hl:e.ids.length≤1000000000):EvIn e:=⟨w64 (by unfold InA at ha;omega),w64 (by unfold InA at hb;omega),hl⟩
theorem exP2 (F:Frm) (ad:Option Addr) (cap:Nat) (xs:List Res) (hl:xs.length≤512) (hin:∀ r∈xs,RgR r) :
  Contract F Tryz.prog 12 [.sl ad xs.length cap 17 (Qk xs.toArray)] (fun r=>∃ a cap es,ExRes xs es∧es.length≤1000000000000∧r=Xh [.sl a es.length cap 8 (Zi es.toArray),.i .i64 (prErr xs)]):=
 (exPairsC F ad cap xs hl hin).same fun r h=>ex_post h
theorem rfP2 (F:Frm) (ad:Option Addr) (cap:Nat) (xs:List Res) (hl:xs.length≤512) (hin:∀ r∈xs,RgR r) :
  Contract F Tryz.prog 13 [.sl ad xs.length cap 17 (Qk xs.toArray)] (fun r=>∃ a cap es,ExRes xs es∧es.length≤262144∧r=Xh [.sl a es.length cap 8 (Zi es.toArray),.i .i64 (prErr xs)]):=
 (rfPairsC F ad cap xs hl hin).same fun r h=>ex_post h
theorem exM2 (F:Frm) (ad:Option Addr) (cap:Nat) (xs:List Res) (hl:xs.length≤512) (hin:∀ r∈xs,RgR r) :
  Contract F Tryz.prog 14 [.sl ad xs.length cap 17 (Qk xs.toArray)] (fun r=>∃ a cap es,MtRes xs es∧es.length≤262144∧r=Xh [.sl a es.length cap 4 (Xi es),.i .i64 (prErr xs)]):=
 (exMatesC F ad cap xs hl hin).same fun r h=>mt_post h
theorem rfM2 (F:Frm) (ad:Option Addr) (cap:Nat) (xs:List Res) (hl:xs.length≤512) (hin:∀ r∈xs,RgR r) (hn:∀ r∈xs,InA r.from_) :
  Contract F Tryz.prog 15 [.sl ad xs.length cap 17 (Qk xs.toArray)] (fun r=>∃ a cap es,MtRes xs es∧es.length≤262144∧r=Xh [.sl a es.length cap 4 (Xi es),.i .i64 (prErr xs)]):=
 (rfMatesLC F ad cap xs hl hin hn).same fun r h=>mt_post h
theorem exAll_rd {e f d:Exc} {qs ls:List Exc} {p r:Nat} (hr:r<8) :
  sim (Zb (3+qs.length) (Zb 3 (rdL (Exc.cs e ++ Exc.cs f ++ Exc.cs d) 8) (Zi qs.toArray)) (Zi ls.toArray) p r)
   (Zi ([e,f,d] ++ qs ++ ls).toArray p r):=by
 have key:∀ g,([e,f,d] ++ qs ++ ls).getD p default=g→Zi ([e,f,d] ++ qs ++ ls).toArray p r=(Exc.cs g).getD r default:=fun g h=>by
  unfold Zi;rw[← h,List.getElem!_toArray,List.getElem!_eq_getElem?_getD,List.getD_eq_getElem?_getD (l:=[e,f,d] ++ qs ++ ls)]
 unfold Zb;by_cases h1:p<3+qs.length
 ·rw[if_pos h1];by_cases h2:p<3
  ·rw[if_pos h2];rcases (show p=0∨p=1∨p=2 by omega) with rfl|rfl|rfl<;>rcases (show r=0∨r=1∨r=2∨r=3∨r=4∨r=5∨r=6∨r=7 by omega) with rfl|rfl|rfl|rfl|rfl|rfl|rfl|rfl<;>exact QE _
  ·rw[if_neg h2,key (qs.getD (p - 3) default) (by
    rw[List.getD_eq_getElem?_getD,List.getElem?_append_left (by simp;omega),List.getElem?_append_right (by simp;omega),List.getD_eq_getElem?_getD]
    rfl)]
   unfold Zi;rw[List.getElem!_toArray,List.getD_eq_getElem?_getD,List.getElem!_eq_getElem?_getD];exact QE _
 ·rw[if_neg h1,key (ls.getD (p - (3+qs.length)) default) (by
   rw[List.getD_eq_getElem?_getD,List.getElem?_append_right (by simp;omega),List.getD_eq_getElem?_getD]
   congr 3
   simp
   omega)]
  unfold Zi;rw[List.getElem!_toArray,List.getD_eq_getElem?_getD,List.getElem!_eq_getElem?_getD];exact QE _
theorem evAll_rd {e f d:Evd} {ls:List Evd} {p r:Nat} (hp:p<3+ls.length) (hr:r<4) :
  sim (Zb 3 (rdL (Evd.cs e ++ Evd.cs f ++ Evd.cs d) 4) (Xi ls) p r) (Xi ([e,f,d] ++ ls) p r):=by
 unfold Zb;by_cases h2:p<3
 ·rw[if_pos h2];rcases (show p=0∨p=1∨p=2 by omega) with rfl|rfl|rfl<;>rcases (show r=0∨r=1∨r=2∨r=3 by omega) with rfl|rfl|rfl|rfl<;>exact QE _
 ·rw[if_neg h2];unfold Xi
  rw[show ([e,f,d] ++ ls).getD p default=ls.getD (p - 3) default by
   rw[List.getD_eq_getElem?_getD,List.getElem?_append_right (by simp;omega),List.getD_eq_getElem?_getD]
   rfl]
  exact QE _
def Q5:=And.intro @evr (And.intro @Bool.not_true (And.intro @Bool.not_false (And.intro @Z6 (And.intro @QY (And.intro @Qm (And.intro @Qq (And.intro @Qv (And.intro @Qu (And.intro @bne_self_eq_false.{0} (And.intro @Qj (And.intro @Xk (@evn))))))))))))
def qb150:=And.intro @evr (And.intro @Bool.not_true (And.intro @Bool.not_false (And.intro @Z6 (And.intro @QY (And.intro @Qm (And.intro @Qq (And.intro @Qv (And.intro @Qu (And.intro @bne_self_eq_false.{0} (And.intro @Qj (And.intro @Xk (And.intro @evl (@evn)))))))))))))
def qb151:=And.intro @evr (And.intro @Bool.not_true (And.intro @Bool.not_false (And.intro @Z6 (And.intro @QY (And.intro @Qm (And.intro @Qq (And.intro @Qv (And.intro @Qu (And.intro @List.append_nil.{0} (And.intro @Int.toNat_zero (And.intro @Nat.sub_self (And.intro @bne_self_eq_false.{0} (And.intro @Qj (@Xk))))))))))))))
def qb152:=And.intro @evr (And.intro @Bool.not_true (And.intro @Bool.not_false (And.intro @Z6 (And.intro @QY (And.intro @Qm (And.intro @Qq (And.intro @Qv (And.intro @Qu (And.intro @bne_self_eq_false.{0} (And.intro @Qj (And.intro @Xk (And.intro @bne_self_eq_false.{0} (@evn)))))))))))))
set_option maxHeartbeats 4000000 in
set_option maxRecDepth 100000 in
theorem findsC (a:Option Addr) (cap:Nat) (z:List Int) (hz:∀ n∈z,(Lit.int .u8 n).wf=true) (ra:Option Addr) (rc:Nat) (raw:List Res) (hraw:∀ r∈raw,RgN r) (hrl:raw.length≤maxLen)
  (x1 x2:Exc) (e:Evd) (he:InA e.a∧InA e.b) (hel:e.ids.length≤maxLen) :
  Contract Frm.nil Tryz.prog 3 [slB a cap z,.sl ra raw.length rc 17 (Qk raw.toArray),excAg x1,excAg x2,evAg e] (fun r=>r=.b true):=by
 have hb:isBytes (slB a cap z):=⟨a,z.length,cap,_,rfl,fun i hi=>⟨z.getD i 0,by have:=bounds_u8 (hz _ (Q3 (d:=0) hi));omega,by have:=bounds_u8 (hz _ (Q3 (d:=0) hi));omega,rfl⟩⟩;refine Qi Tryz.func3 rfl (by kernel_rfl) ?_;simp only[Tryz.ntmps3,Qt,evAg,excAg,Evd.cs,Exc.cs];(repeat refine Qc ?_);(refine Qa fun k hk=>?_;simp only[id,seval,ptr,Qb,Q5]);intro b7 b8 b9;(refine hk _ ?_;clear hk k;try show Sat _ _ _ _ _);refine Q9 7 rfl rfl ?_;refine Q9 8 rfl rfl ?_;refine Q9 9 rfl rfl ?_;obtain⟨r1,hr1⟩:∃ q:Nat→SV,q=fun j=>(Exc.cs x1).getD j default:=⟨_,rfl⟩;obtain⟨r2,hr2⟩:∃ q:Nat→SV,q=fun j=>(Exc.cs x2).getD j default:=⟨_,rfl⟩;obtain⟨re,hre⟩:∃ q:Nat→SV,q=fun j=>[SV.i .i64 e.kind,.i .u32 e.a,.i .u32 e.b,.sl e.ad e.ids.length e.cap 3 (QX e.ids.toArray)].getD j default:=⟨_,rfl⟩;have re3:re 3=.sl e.ad e.ids.length e.cap 3 (QX e.ids.toArray):=by rw[hre];rfl
 refine Sat.le (st':=⟨227,[(0,slB a cap z),(1,.sl ra raw.length rc 17 (Qk raw.toArray)),(7,.el ⟨b7,0,none⟩ 8 r1),(8,.el ⟨b8,0,none⟩ 8 r2),(9,.el ⟨b9,0,none⟩ 4 re)],[]⟩) ?_ (by
  rw[hr1,hr2,hre];simp only[Exc.cs];simp only[id,seval,ptr,Qb,qb150]
  first|done|rfl|exact⟨rfl,rfl,rfl⟩|trace_state)
 (repeat refine Qc ?_);refine Zg (ι:=Bool) (fun q=>⟨227,[(43,.b q),(0,slB a cap z),(1,.sl ra raw.length rc 17 (Qk raw.toArray)),(7,.el ⟨b7,0,none⟩ 8 r1),(8,.el ⟨b8,0,none⟩ 8 r2),(9,.el ⟨b9,0,none⟩ 4 re)],[]⟩)
  (fun q=>q=false→raw.length≤10∧e.ids.length≤8) (fun hrest=>?_) ?_
 ·(refine Qa fun k hk=>?_;simp only[id,seval,ptr,Qb,Q5]);refine Qd (awakeC Frm.nil) rfl (by rintro _ rfl;exact Qh rfl) ?_;rintro r rfl;simp only[id,seval,ptr,Qb,re3,Q5];refine⟨fun g1=>?_,fun g1=>?_⟩
  ·refine hk _ ?_;simp only[Qf];refine (hrest true (fun h=>by cases h)).le ?_;simp only[id,seval,ptr,Qb,qb150]
  ·refine hk _ ?_;simp only[Qf];refine (hrest (decide ((8:Int)<(e.ids.length:Int))) (fun h=>by have h9:=of_decide_eq_false h;exact⟨by omega,by omega⟩)).le ?_;simp only[id,seval,ptr,Qb,qb150]
 rintro q hq;(repeat refine Qc ?_);refine Qe rfl (fun h=>?_) (fun h=>?_)
 ·(repeat refine Qc ?_);(refine Qa fun k hk=>?_;simp only[id,seval,ptr,Qb,Q5]);refine Qd (awakeC Frm.nil) rfl (by rintro _ rfl;exact Qh rfl) ?_;rintro r rfl;simp only[id,seval,ptr,Qb,Q5];(refine hk _ ?_;clear hk k;try show Sat _ _ _ _ _);refine Sat.ret ?_;simp only[Tryz.results3,id,seval,ptr,Qb,qb151]
 obtain⟨hr10,he8⟩:=hq h;refine Sat.skip ?_;simp only[Qf];refine Qc ?_;(refine Qa fun k hk=>?_;simp only[id,seval,ptr,Qb,Q5]);refine wcall_make (rollC (slB a cap z) hb) ?_;intro cb;simp only[id,seval,ptr,Qb,Q5];(refine hk _ ?_;clear hk k;try show Sat _ _ _ _ _);refine Sat.switch (cb:=cb) (id:=0) (F':=Frm.codes cb) (fun b=>Iff.rfl) (fun _ h=>h) rfl ?_;(repeat refine Qc ?_);(refine Qa fun k hk=>?_;simp only[id,seval,ptr,Qb,Q5]);refine Qd (boolC cb 3 (by decide) (by decide)) rfl (by rintro _ ⟨b,rfl⟩;exact Qh rfl) ?_;rintro _ ⟨b0,rfl⟩;simp only[id,seval,ptr,Qb,Q5];refine Q8 (resultsC (!b0) cb 20 (by omega)) rfl (by simp only[id,seval,ptr,Qb,Q5];try rfl) ?_;rintro xa ty len xc sz rrd ⟨a1,c1,xs,n0,n1,hI,hxl,ee⟩;simp only[Qb,Own.row.injEq] at ee;obtain⟨rfl,rfl,rfl,rfl,rfl,rfl⟩:=ee;simp only[id,seval,ptr,Qb,Q5];(refine hk _ ?_;clear hk k;try show Sat _ _ _ _ _);refine QQ [] 12 rfl ?_;have hxn:∀ r∈xs,RgN r:=fun r hr=>⟨hI.inr r hr,hI.nn r hr⟩;(repeat refine Qc ?_);(refine Qa fun k hk=>?_;simp only[id,seval,ptr,Qb,Q5]);refine Q8 (oddC cb xa xc xs (by omega) hxn) rfl (by simp only[id,seval,ptr,Qb,Q5];try rfl) ?_;rintro oa ty len oc sz rrd ⟨a1,c1,os,hos,hol,ee⟩;simp only[Qb,Own.row.injEq] at ee;obtain⟨rfl,rfl,rfl,rfl,rfl,rfl⟩:=ee;simp only[id,seval,ptr,Qb,Q5];intro blk;(refine hk _ ?_;clear hk k;try show Sat _ _ _ _ _);obtain⟨ys,hys⟩:∃ ys:List YP,ys=[⟨xa,xc,xs⟩,⟨ra,rc,raw⟩,⟨oa,oc,os⟩]:=⟨_,rfl⟩;refine Sat.settleCell 1 0 (fun i _=>(ys.getD i default).sv) rfl rfl (by decide) (fun i c hi hc=>?_) ?_
 ·obtain rfl:c=0:=by omega
  subst hys;rcases (show i=0∨i=1∨i=2 by omega) with rfl|rfl|rfl
  ·exact .inl (QE _)
  ·exact .inl (QE _)
  ·exact .inr ⟨rfl,rfl⟩
 simp only[id,seval,ptr,Qb,Q5];refine Zo 57 rfl rfl ?_;simp only[id,seval,ptr,Qb,Q5]
 have hok:∀ i,i<3→YOk (ys.getD i default):=by
  intro i hi;subst hys;rcases (show i=0∨i=1∨i=2 by omega) with rfl|rfl|rfl
  ·exact⟨hI.inr,hI.nn,by show xs.length≤30;omega⟩
  ·exact⟨fun r hr=>(hraw r hr).1,fun r hr=>(hraw r hr).2,by show raw.length≤30;omega⟩
  ·exact⟨fun r hr=>(hos r hr).1,fun r hr=>(hos r hr).2,by show os.length≤30;omega⟩
 clear hys;(repeat refine Qc ?_);refine Sat.block ?_;refine Qo (ι:=Nat) (fun i=>⟨227,[(59,.i .i64 i),(58,.i .i64 3),(57,.sl (some ⟨blk,0,none⟩) 3 3 1 (fun i _=>(ys.getD i default).sv)),(11,.v (.pointer (some ⟨cb,0,none⟩))),(7,.el ⟨b7,0,none⟩ 8 r1),(8,.el ⟨b8,0,none⟩ 8 r2),(9,.el ⟨b9,0,none⟩ 4 re)],[]⟩)
  (fun i=>i≤3) (fun i=>3 - i) 0 (Nat.zero_le _) (by simp only[id,seval,ptr,Qb,qb150];first|rfl|exact⟨rfl,rfl⟩|trace_state) ?_
 intro i hi;(repeat refine Qc ?_);(refine Qa fun k hk=>?_;simp only[id,seval,ptr,Qb,Q5];refine hk _ ?_;clear hk k;try show Sat _ _ _ _ _);(repeat refine Qc ?_);refine Qe rfl (fun h=>?_) (fun h=>?_)
 ·have h1:i<3:=by simp only[decide_eq_true_eq] at h;omega
  have e2:IntKind.i64.wrap ((i:Int)+1)=((i+1:Nat):Int):=by rw[w64 (by omega)];omega
  obtain⟨y,hy⟩:∃ y,ys.getD i default=y:=⟨_,rfl⟩;have hyk:=hok i h1;rw[hy] at hyk;obtain⟨hrg,hnn,hlen⟩:=hyk;refine Sat.skip ?_;simp only[Qf];(repeat refine Qc ?_);refine Sat.block ?_;(repeat refine Qc ?_);(refine Qa fun k hk=>?_;simp only[id,seval,ptr,Qb,Q5]);refine⟨by omega,?_⟩;simp only[hy,YP.sv];(refine hk _ ?_;clear hk k;try show Sat _ _ _ _ _);(repeat refine Qc ?_);(refine Qa fun k hk=>?_;simp only[id,seval,ptr,Qb,Q5]);refine Q2 (exP2 (Frm.codes cb) y.a y.c y.l (by omega) hrg) rfl (by simp only[id,seval,ptr,Qb,Q5]) ?_;rintro r ⟨pa,pc,ps,hps,hpl,rfl⟩;simp only[id,seval,ptr,Qb,Q5];(refine hk _ ?_;clear hk k;try show Sat _ _ _ _ _);(repeat refine Qc ?_);(refine Qa fun k hk=>?_;simp only[id,seval,ptr,Qb,Q5]);refine Q2 (rfP2 (Frm.codes cb) y.a y.c y.l (by omega) hrg) rfl (by simp only[id,seval,ptr,Qb,Q5]) ?_;rintro r ⟨qa,qc,qs,hqs,hql,rfl⟩;simp only[id,seval,ptr,Qb,Q5];(refine hk _ ?_;clear hk k;try show Sat _ _ _ _ _);(repeat refine Qc ?_);(refine Qa fun k hk=>?_;simp only[id,seval,ptr,Qb,Q5]);refine Q2 (exM2 (Frm.codes cb) y.a y.c y.l (by omega) hrg) rfl (by simp only[id,seval,ptr,Qb,Q5]) ?_;rintro r ⟨ua,uc,us,hus,hul,rfl⟩;simp only[id,seval,ptr,Qb,Q5];(refine hk _ ?_;clear hk k;try show Sat _ _ _ _ _);(repeat refine Qc ?_);(refine Qa fun k hk=>?_;simp only[id,seval,ptr,Qb,Q5]);refine Q2 (rfM2 (Frm.codes cb) y.a y.c y.l (by omega) hrg hnn) rfl (by simp only[id,seval,ptr,Qb,Q5]) ?_;rintro r ⟨va,vc,vs,hvs,hvl,rfl⟩;simp only[id,seval,ptr,Qb,Q5];(refine hk _ ?_;clear hk k;try show Sat _ _ _ _ _);have hsame:decide (ps=qs)=true:=decide_eq_true (exRes_same hps hqs);have hsame2:decide (us.map Evd.say=vs.map Evd.say)=true:=decide_eq_true (mtRes_same hus hvs);have hui:=mtRes_in hus hnn;have hvi:=mtRes_in hvs hnn;have hue:∀ e∈us,EvIn e:=fun e he=>inA_ev (hui e he).1.1 (hui e he).1.2 (by have:=(hui e he).2;omega);have hve:∀ e∈vs,EvIn e:=fun e he=>inA_ev (hvi e he).1.1 (hvi e he).1.2 (by have:=(hvi e he).2;omega);(repeat refine Qc ?_);refine Sat.at ⟨227,[(102,.b false),(17,.sl qa qs.length qc 8 (Zi qs.toArray)),(21,.sl va vs.length vc 4 (Xi vs)),(14,.sl y.a y.l.length y.c 17 (Qk y.l.toArray)),(59,.i .i64 i),(58,.i .i64 3),(57,.sl (some ⟨blk,0,none⟩) 3 3 1 (fun i _=>(ys.getD i default).sv)),(11,.v (.pointer (some ⟨cb,0,none⟩))),(7,.el ⟨b7,0,none⟩ 8 r1),(8,.el ⟨b8,0,none⟩ 8 r2),(9,.el ⟨b9,0,none⟩ 4 re)],[]⟩ ?_ ?_
  ·(refine Qa fun k hk=>?_;simp only[id,seval,ptr,Qb,Q5]);refine Qd (sameExC (Frm.codes cb) pa qa pc qc ps qs hpl) rfl (by rintro _ rfl;exact Qh rfl) ?_;rintro _ rfl;rw[hsame];simp only[id,seval,ptr,Qb,Q5];refine Qd (sameEvC (Frm.codes cb) ua va uc vc us vs (by omega) hue hve) rfl (by rintro _ rfl;exact Qh rfl) ?_;rintro _ rfl;rw[hsame2];simp only[id,seval,ptr,Qb,Q5];refine hk _ ?_;simp only[Qf];simp only[id,seval,ptr,Qb,qb150];rfl
  simp only[Qf];clear hps hqs hsame hus hvs hsame2 hui hue;(repeat refine Qc ?_);refine Qe rfl (fun h=>absurd h (by decide)) (fun _=>?_);refine Sat.skip ?_;simp only[Qf];have sf:∀ j,(j=0∨j=1∨j=2∨j=3∨j=4∨j=5∨j=6∨j=7)→r1 j=(Exc.cs x1).getD j default∧r2 j=(Exc.cs x2).getD j default:=fun j _=>⟨by rw[hr1],by rw[hr2]⟩;(repeat refine Qc ?_);(refine Qp (.keep [2,4,6,7,9,10,14,16,0,1] [3,5,8,11,12] (.one 3 (.one 5 (.one 8 (.one 11 (.one 12 (.one 13 (.one 15 (.one 17 (.one 18 (.one 19 .done))))))))))) (by kernel_rfl) (by kernel_rfl) (fun _ _ h=>h) fun k hk=>?_;simp only[WOT,List.map_cons,List.map_nil,List.getD_cons_zero,List.getD_cons_succ];simp only[id,seval,ptr,Qb,WOT,Q5]);refine Qd (addrC cb) rfl (by rintro _ ⟨x,_,rfl⟩;exact Qh rfl) ?_;rintro r ⟨d1,hd1,rfl⟩;simp only[id,seval,ptr,Qb,Q5];refine Qd (addrC cb) rfl (by rintro _ ⟨x,_,rfl⟩;exact Qh rfl) ?_;rintro r ⟨d2,hd2,rfl⟩;simp only[id,seval,ptr,Qb,Q5];refine Qd (diceIdC cb y.a y.c y.l (by omega)) rfl (by rintro _ ⟨d,rfl⟩;exact ok_aggL (l:=Idn.cs d) rfl) ?_;rintro r ⟨p1,rfl⟩;simp only[idnAg,Idn.cs,id,seval,ptr,Qb,qb151];refine Qd (diceIdC cb y.a y.c y.l (by omega)) rfl (by rintro _ ⟨d,rfl⟩;exact ok_aggL (l:=Idn.cs d) rfl) ?_;rintro r ⟨p2,rfl⟩;simp only[idnAg,Idn.cs,id,seval,ptr,Qb,qb151];refine⟨by rw[hr1,hr2];rfl,fun bl=>⟨⟨by unfold maxLen;omega,by omega⟩,fun a2 c2=>?_⟩⟩;refine Q8 (diceExclC cb 2 (by omega)) rfl (by simp only[id,seval,ptr,Qb,Q5];try rfl) ?_;rintro la ty len lc sz rrd ⟨a1,c1,ls,hll,ee⟩;simp only[Own.row.injEq] at ee;obtain⟨rfl,rfl,rfl,rfl,rfl,rfl⟩:=ee;simp only[id,seval,ptr,Qb,Q5];refine⟨⟨by unfold maxLen;omega,by omega⟩,fun a3 c3=>?_⟩;(refine hk _ ?_;clear hk k;try show Sat _ _ _ _ _);obtain⟨al,hal⟩:∃ al:List Exc,al=[x1,x2,⟨d1,d2,p1,p2⟩] ++ qs ++ ls:=⟨_,rfl⟩;have hall:al.length=3+qs.length+ls.length:=by rw[hal];simp;omega
  refine Sat.reread 0 (Zi al.toArray) rfl (fun p r hp hr=>?_) ?_
  ·rw[hal,hr1,hr2];exact exAll_rd (e:=x1) (f:=x2) (d:=⟨d1,d2,p1,p2⟩) hr
  simp only[id,seval,ptr,Qb,Q5];refine Zo 23 rfl rfl ?_;simp only[id,seval,ptr,Qb,Q5];refine Sat.le (st':=⟨227,[(23,.sl a3 al.length c3 8 (Zi al.toArray)),(21,.sl va vs.length vc 4 (Xi vs)),(14,.sl y.a y.l.length y.c 17 (Qk y.l.toArray)),(59,.i .i64 i),(58,.i .i64 3),(57,.sl (some ⟨blk,0,none⟩) 3 3 1 (fun i _=>(ys.getD i default).sv)),(11,.v (.pointer (some ⟨cb,0,none⟩))),(7,.el ⟨b7,0,none⟩ 8 r1),(8,.el ⟨b8,0,none⟩ 8 r2),(9,.el ⟨b9,0,none⟩ 4 re)],[]⟩) ?_ ?_;rotate_left
  ·rw[hall];simp only[id,seval,ptr,Qb,qb150];try rfl
  clear hal;(repeat refine Qc ?_);(refine Qa fun k hk=>?_;simp only[id,seval,ptr,Qb,Q5];refine hk _ ?_;clear hk k;try show Sat _ _ _ _ _);(repeat refine Qc ?_);refine Sat.block ?_;refine Qo (ι:=Nat) (fun q=>⟨227,[(124,.i .i64 q),(123,.i .i64 al.length),(23,.sl a3 al.length c3 8 (Zi al.toArray)),(21,.sl va vs.length vc 4 (Xi vs)),(14,.sl y.a y.l.length y.c 17 (Qk y.l.toArray)),(59,.i .i64 i),(58,.i .i64 3),(57,.sl (some ⟨blk,0,none⟩) 3 3 1 (fun i _=>(ys.getD i default).sv)),(11,.v (.pointer (some ⟨cb,0,none⟩))),(7,.el ⟨b7,0,none⟩ 8 r1),(8,.el ⟨b8,0,none⟩ 8 r2),(9,.el ⟨b9,0,none⟩ 4 re)],[]⟩)
   (fun q=>q≤al.length) (fun q=>al.length - q) 0 (Nat.zero_le _) (by simp only[id,seval,ptr,Qb,qb150];first|rfl|trace_state) ?_
  intro q hq;(repeat refine Qc ?_);(refine Qa fun k hk=>?_;simp only[id,seval,ptr,Qb,Q5];refine hk _ ?_;clear hk k;try show Sat _ _ _ _ _);(repeat refine Qc ?_);refine Qe rfl (fun h3=>?_) (fun h3=>?_)
  ·have h4:q<al.length:=by simp only[decide_eq_true_eq] at h3;omega
   have e3:IntKind.i64.wrap ((q:Int)+1)=((q+1:Nat):Int):=by rw[w64 (by omega)];omega
   refine Sat.skip ?_;simp only[Qf];(repeat refine Qc ?_);refine Sat.block ?_;(repeat refine Qc ?_);(refine Qa fun k hk=>?_;simp only[id,seval,ptr,Qb,Q5];refine hk _ ?_;clear hk k;try show Sat _ _ _ _ _);(repeat refine Qc ?_);refine Sat.at ⟨227,[(139,.b false),(24,.i .i64 q),(124,.i .i64 q),(123,.i .i64 al.length),(23,.sl a3 al.length c3 8 (Zi al.toArray)),(21,.sl va vs.length vc 4 (Xi vs)),(14,.sl y.a y.l.length y.c 17 (Qk y.l.toArray)),(59,.i .i64 i),(58,.i .i64 3),(57,.sl (some ⟨blk,0,none⟩) 3 3 1 (fun i _=>(ys.getD i default).sv)),(11,.v (.pointer (some ⟨cb,0,none⟩))),(7,.el ⟨b7,0,none⟩ 8 r1),(8,.el ⟨b8,0,none⟩ 8 r2),(9,.el ⟨b9,0,none⟩ 4 re)],[]⟩ ?_ ?_
   ·(refine Qr (by kernel_rfl) (by kernel_rfl) fun k hk=>?_;simp only[id,seval,ptr,Qb,Q5]);refine⟨by omega,?_⟩;refine ZV (exHoldsC Frm.nil y.a y.c y.l al.toArray[q]! (by omega)) rfl (Qh rfl) ?_;simp only[id,seval,ptr,Qb,Q5];refine⟨by omega,?_⟩;refine ZV (rfHoldsC Frm.nil y.a y.c y.l al.toArray[q]! (by omega) hrg) rfl (Qh rfl) ?_;simp only[id,seval,ptr,Qb,qb152];refine hk _ ?_;simp only[Qf];simp only[id,seval,ptr,Qb,qb150];try rfl
   simp only[Qf];(repeat refine Qc ?_);refine Qe rfl (fun h=>absurd h (by decide)) (fun _=>?_);refine Sat.skip ?_;simp only[Qf];(repeat refine Qc ?_);(refine Qa fun k hk=>?_;simp only[id,seval,ptr,Qb,Q5]);refine Qd (Zf cb (al.length:Int) (by omega) (by omega)) rfl (by rintro _ ⟨x,rfl,_⟩;exact Qh rfl) ?_;rintro r ⟨x,rfl,hx0,hx1⟩;obtain⟨nx,rfl⟩:=Int.eq_ofNat_of_zero_le hx0;have hnx:nx<al.length:=by omega
   simp only[id,seval,ptr,Qb,Q5];(refine hk _ ?_;clear hk k;try show Sat _ _ _ _ _);(repeat refine Qc ?_);refine Sat.at ⟨227,[(162,.b false),(124,.i .i64 q),(123,.i .i64 al.length),(23,.sl a3 al.length c3 8 (Zi al.toArray)),(21,.sl va vs.length vc 4 (Xi vs)),(14,.sl y.a y.l.length y.c 17 (Qk y.l.toArray)),(59,.i .i64 i),(58,.i .i64 3),(57,.sl (some ⟨blk,0,none⟩) 3 3 1 (fun i _=>(ys.getD i default).sv)),(11,.v (.pointer (some ⟨cb,0,none⟩))),(7,.el ⟨b7,0,none⟩ 8 r1),(8,.el ⟨b8,0,none⟩ 8 r2),(9,.el ⟨b9,0,none⟩ 4 re)],[]⟩ ?_ ?_
   ·(refine Qr (by kernel_rfl) (by kernel_rfl) fun k hk=>?_;simp only[id,seval,ptr,Qb,Q5]);refine⟨by omega,by omega,?_⟩;refine ZV (compareExC Frm.nil al.toArray[q]! al.toArray[nx]!) rfl (Qh rfl) ?_;simp only[id,seval,ptr,Qb,Q5];refine⟨by omega,by omega,?_⟩;refine ZV (rfCompareExC Frm.nil al.toArray[q]! al.toArray[nx]!) rfl (Qh rfl) ?_;simp only[id,seval,ptr,Qb,qb152];refine hk _ ?_;simp only[Qf];simp only[id,seval,ptr,Qb,qb150];try rfl
   simp only[Qf];(repeat refine Qc ?_);refine Qe rfl (fun h=>absurd h (by decide)) (fun _=>?_);refine Sat.skip ?_;simp only[Qf,Qg,reduceIte];refine Qa fun k hk=>?_;simp only[id,seval,ptr,Qb,e3,Q5];refine hk _ ?_;simp only[Qf,Qg];refine⟨q+1,h4,by omega,?_⟩;simp only[id,seval,ptr,Qb,qb150];try rfl
  refine Sat.exit ?_;simp only[Qf,Qg,reduceIte];(repeat refine Qc ?_);(refine Qa fun k hk=>?_;simp only[id,seval,ptr,Qb,Q5]);refine Q2 (diceEvC cb) rfl rfl ?_;rintro r ⟨od,hod1,hod2,rfl⟩;simp only[evAg,Evd.cs,id,seval,ptr,Qb,qb151];intro b26;(refine hk _ ?_;clear hk k;try show Sat _ _ _ _ _);(repeat refine Qc ?_);(refine Qa fun k hk=>?_;simp only[id,seval,ptr,Qb,Q5]);refine Q8 (diceIdsC cb y.a y.c y.l 4 (by omega) (by omega)) rfl (by simp only[id,seval,ptr,Qb,Q5];try rfl) ?_;rintro ia ty len ic sz rrd ⟨a1,c1,ids,hil,ee⟩;simp only[Own.row.injEq] at ee;obtain⟨rfl,rfl,rfl,rfl,rfl,rfl⟩:=ee;simp only[id,seval,ptr,Qb,Q5];(refine hk _ ?_;clear hk k;try show Sat _ _ _ _ _);refine XP 0 3 rfl rfl rfl ?_;simp only[id,seval,ptr,Qb,Q5];(repeat refine Qc ?_);(refine Qp (.keep [2,5,0,1] [3] (.one 3 (.one 4 (.one 6 (.one 7 .done))))) (by kernel_rfl) (by kernel_rfl) (fun _ _ h=>h) fun k hk=>?_;simp only[WOT,List.map_cons,List.map_nil,List.getD_cons_zero,List.getD_cons_succ];simp only[id,seval,ptr,Qb,WOT,Q5]);refine Q2 (diceEvC cb) rfl rfl ?_;rintro r ⟨ov,hov1,hov2,rfl⟩;simp only[evAg,Evd.cs,id,seval,ptr,Qb,qb151];refine⟨by rw[hre];rfl,fun bl=>⟨⟨by unfold maxLen;omega,by omega⟩,fun a4 c4=>?_⟩⟩;(refine hk _ ?_;clear hk k;try show Sat _ _ _ _ _);obtain⟨sl,hsl⟩:∃ sl:List Evd,sl=[e,⟨2,od.a,od.b,ids,ia,ic⟩,ov] ++ vs:=⟨_,rfl⟩;have hsll:sl.length=3+vs.length:=by rw[hsl];simp;omega
  have hsle:∀ g∈sl,(InA g.a∧InA g.b)∧g.ids.length≤1000000000:=fun g hg=>by
   rw[hsl] at hg;rcases List.mem_append.1 hg with hg|hg
   ·simp only[List.mem_cons,List.not_mem_nil,or_false] at hg;rcases hg with rfl|rfl|rfl
    ·exact⟨he,by omega⟩
    ·exact⟨hod1,by show ids.length≤1000000000;omega⟩
    ·exact⟨hov1,by omega⟩
   ·exact⟨(hvi g hg).1,by have:=(hvi g hg).2;omega⟩
  refine Sat.reread 2 (Xi sl) rfl (fun p r hp hr=>?_) ?_
  ·rw[hsl,hre];exact evAll_rd (e:=e) (f:=⟨2,od.a,od.b,ids,ia,ic⟩) (d:=ov) hp hr
  simp only[id,seval,ptr,Qb,Q5];refine Zo 27 rfl rfl ?_;simp only[id,seval,ptr,Qb,Q5];refine Sat.le (st':=⟨227,[(27,.sl a4 sl.length c4 4 (Xi sl)),(14,.sl y.a y.l.length y.c 17 (Qk y.l.toArray)),(59,.i .i64 i),(58,.i .i64 3),(57,.sl (some ⟨blk,0,none⟩) 3 3 1 (fun i _=>(ys.getD i default).sv)),(11,.v (.pointer (some ⟨cb,0,none⟩))),(7,.el ⟨b7,0,none⟩ 8 r1),(8,.el ⟨b8,0,none⟩ 8 r2),(9,.el ⟨b9,0,none⟩ 4 re)],[]⟩) ?_ ?_;rotate_left
  ·rw[hsll];simp only[id,seval,ptr,Qb,qb150];try rfl
  clear hsl;(repeat refine Qc ?_);(refine Qa fun k hk=>?_;simp only[id,seval,ptr,Qb,Q5];refine hk _ ?_;clear hk k;try show Sat _ _ _ _ _);(repeat refine Qc ?_);refine Sat.block ?_;refine Qo (ι:=Nat) (fun q=>⟨227,[(180,.i .i64 q),(179,.i .i64 sl.length),(27,.sl a4 sl.length c4 4 (Xi sl)),(14,.sl y.a y.l.length y.c 17 (Qk y.l.toArray)),(59,.i .i64 i),(58,.i .i64 3),(57,.sl (some ⟨blk,0,none⟩) 3 3 1 (fun i _=>(ys.getD i default).sv)),(11,.v (.pointer (some ⟨cb,0,none⟩))),(7,.el ⟨b7,0,none⟩ 8 r1),(8,.el ⟨b8,0,none⟩ 8 r2),(9,.el ⟨b9,0,none⟩ 4 re)],[]⟩)
   (fun q=>q≤sl.length) (fun q=>sl.length - q) 0 (Nat.zero_le _) (by simp only[id,seval,ptr,Qb,qb150];first|rfl|trace_state) ?_
  intro q hq;(repeat refine Qc ?_);(refine Qa fun k hk=>?_;simp only[id,seval,ptr,Qb,Q5];refine hk _ ?_;clear hk k;try show Sat _ _ _ _ _);(repeat refine Qc ?_);refine Qe rfl (fun h3=>?_) (fun h3=>?_)
  ·have h4:q<sl.length:=by simp only[decide_eq_true_eq] at h3;omega
   have e3:IntKind.i64.wrap ((q:Int)+1)=((q+1:Nat):Int):=by rw[w64 (by omega)];omega
   obtain⟨⟨g1,g2⟩,g3⟩:=hsle (sl.getD q default) (Q3 h4);have hrm:=rfHoldsMateC Frm.nil y.a y.c y.l (sl.getD q default) (by omega) g3 hrg hnn;rw[rhm_eq y.l (sl.getD q default) g1 g2] at hrm;refine Sat.skip ?_;simp only[Qf];(repeat refine Qc ?_);refine Sat.block ?_;(repeat refine Qc ?_);(refine Qa fun k hk=>?_;simp only[id,seval,ptr,Qb,Q5];refine hk _ ?_;clear hk k;try show Sat _ _ _ _ _);(repeat refine Qc ?_);(refine Qr (by kernel_rfl) (by kernel_rfl) fun k hk=>?_;simp only[id,seval,ptr,Qb,Q5]);refine⟨by omega,?_⟩;refine ZV (holdsMateC Frm.nil y.a y.c y.l (sl.getD q default) (by omega) g3) rfl (Qh rfl) ?_;simp only[id,seval,ptr,Qb,Q5];refine⟨by omega,?_⟩;refine ZV hrm rfl (Qh rfl) ?_;simp only[id,seval,ptr,Qb,qb152];refine hk _ ?_;simp only[Qf];(repeat refine Qc ?_);refine Qe rfl (fun h=>absurd h (by decide)) (fun _=>?_);refine Sat.skip ?_;simp only[Qf,Qg,reduceIte];refine Qa fun k hk=>?_;simp only[id,seval,ptr,Qb,e3,Q5];refine hk _ ?_;simp only[Qf,Qg];refine⟨q+1,h4,by omega,?_⟩;simp only[id,seval,ptr,Qb,qb150];try rfl
  refine Sat.exit ?_;simp only[Qf,Qg,reduceIte];(repeat refine Qc ?_);(refine Qa fun k hk=>?_;simp only[id,seval,ptr,Qb,Q5];refine hk _ ?_;clear hk k;try show Sat _ _ _ _ _);(repeat refine Qc ?_);refine Sat.block ?_;refine Qo (ι:=Nat) (fun q=>⟨227,[(199,.i .i64 q),(198,.i .i64 y.l.length),(14,.sl y.a y.l.length y.c 17 (Qk y.l.toArray)),(59,.i .i64 i),(58,.i .i64 3),(57,.sl (some ⟨blk,0,none⟩) 3 3 1 (fun i _=>(ys.getD i default).sv)),(11,.v (.pointer (some ⟨cb,0,none⟩))),(7,.el ⟨b7,0,none⟩ 8 r1),(8,.el ⟨b8,0,none⟩ 8 r2),(9,.el ⟨b9,0,none⟩ 4 re)],[]⟩)
   (fun q=>q≤y.l.length) (fun q=>y.l.length - q) 0 (Nat.zero_le _) (by simp only[id,seval,ptr,Qb,qb150];first|rfl|trace_state) ?_
  intro q hq;(repeat refine Qc ?_);(refine Qa fun k hk=>?_;simp only[id,seval,ptr,Qb,Q5];refine hk _ ?_;clear hk k;try show Sat _ _ _ _ _);(repeat refine Qc ?_);refine Qe rfl (fun h3=>?_) (fun h3=>?_)
  ·have h4:q<y.l.length:=by simp only[decide_eq_true_eq] at h3;omega
   have e3:IntKind.i64.wrap ((q:Int)+1)=((q+1:Nat):Int):=by rw[w64 (by omega)];omega
   refine Sat.skip ?_;simp only[Qf];(repeat refine Qc ?_);refine Sat.block ?_;(repeat refine Qc ?_);(refine Qa fun k hk=>?_;simp only[id,seval,ptr,Qb,Q5];refine hk _ ?_;clear hk k;try show Sat _ _ _ _ _);(repeat refine Qc ?_);(refine Qa fun k hk=>?_;simp only[id,seval,ptr,Qb,Q5]);refine Qd (Zf cb (y.l.length:Int) (by omega) (by omega)) rfl (by rintro _ ⟨x,rfl,_⟩;exact Qh rfl) ?_;rintro r ⟨x,rfl,hx0,hx1⟩;obtain⟨nx,rfl⟩:=Int.eq_ofNat_of_zero_le hx0;have hnx:nx<y.l.length:=by omega
   simp only[id,seval,ptr,Qb,Q5];(refine hk _ ?_;clear hk k;try show Sat _ _ _ _ _);(repeat refine Qc ?_);(refine Qr (by kernel_rfl) (by kernel_rfl) fun k hk=>?_;simp only[id,seval,ptr,Qb,Q5]);refine⟨by omega,by omega,?_⟩;refine ZV (folC Frm.nil y.l.toArray[q]! y.l.toArray[nx]!) rfl (Qh rfl) ?_;simp only[id,seval,ptr,Qb,Q5];refine⟨by omega,by omega,?_⟩;refine ZV (rfFolC Frm.nil y.l.toArray[q]! y.l.toArray[nx]!) rfl (Qh rfl) ?_;simp only[id,seval,ptr,Qb,qb152];refine hk _ ?_;simp only[Qf];(repeat refine Qc ?_);refine Qe rfl (fun h=>absurd h (by decide)) (fun _=>?_);refine Sat.skip ?_;simp only[Qf,Qg,reduceIte];refine Qa fun k hk=>?_;simp only[id,seval,ptr,Qb,e3,Q5];refine hk _ ?_;simp only[Qf,Qg];refine⟨q+1,h4,by omega,?_⟩;simp only[id,seval,ptr,Qb,qb150];try rfl
  refine Sat.exit ?_;simp only[Qf,Qg,reduceIte];refine Qa fun k hk=>?_;simp only[id,seval,ptr,Qb,e2,Q5];refine hk _ ?_;simp only[Qf,Qg];refine⟨i+1,h1,by omega,?_⟩;simp only[id,seval,ptr,Qb,qb150]
 refine Sat.exit ?_;simp only[Qf,Qg,reduceIte];(repeat refine Qc ?_);(refine Qa fun k hk=>?_;simp only[id,seval,ptr,Qb,Q5];refine hk _ ?_;clear hk k;try show Sat _ _ _ _ _);refine Sat.ret ?_;simp only[Tryz.results3,id,seval,ptr,Qb,qb151]
end

set_option maxRecDepth 100000
section
open Go.Sort Eng Go.RowKit Go.WideShapes Go.ChangeShapes
theorem sh_fields {P:Program} {D:Nat} {t:TypeId} {ps:List (Nat×TypeId)} {l:List SV} (hu:P.underlying t=some (.struct (P.fieldsOf t))) (hm:(P.fieldsOf t).toList.map (fun f=>(f.offset,f.type))=ps) (h:Sh P (D+1) t l) :
  l.length=P.cellsOf t∧∀ p∈ps,Sh P D p.2 ((l.drop p.1).take (P.cellsOf p.2)):=by
 obtain⟨h1,h2⟩:=sh_struct hu h;refine⟨h1,fun p hp=>?_⟩;rw[← hm] at hp;obtain⟨f,hf,rfl⟩:=List.mem_map.1 hp;exact h2 f hf
theorem ans_of_sh {D:Nat} {l:List SV} (h:Sh Tryz.prog (D+2) 60 l):∃ a b c d e f:Int,l=[.i .u32 a,.i .i64 b,.i .i64 c,.i .i64 d,.i .i64 e,.i .i64 f]∧u32 a:=by
 obtain⟨h1,h2⟩:=sh_fields (ps:=[(0,25),(1,3),(2,3),(3,3),(4,3),(5,3)]) (by kernel_rfl) (by kernel_rfl) h;have hc:Tryz.prog.cellsOf 60=6:=by kernel_rfl
 have c1:Tryz.prog.cellsOf 3=1:=by kernel_rfl
 have c2:Tryz.prog.cellsOf 25=1:=by kernel_rfl
 rw[hc] at h1
 match l,h1 with
 | [x0,x1,x2,x3,x4,x5],_=>
  have g0:=h2 (0,25) (by simp);have g1:=h2 (1,3) (by simp);have g2:=h2 (2,3) (by simp);have g3:=h2 (3,3) (by simp);have g4:=h2 (4,3) (by simp);have g5:=h2 (5,3) (by simp);simp only[c1,c2] at g0 g1 g2 g3 g4 g5;obtain⟨n0,e0,w0⟩:=Z5 (k:=.u32) (by kernel_rfl) g0;obtain⟨n1,e1,w1⟩:=Z5 (k:=.i64) (by kernel_rfl) g1;obtain⟨n2,e2,w2⟩:=Z5 (k:=.i64) (by kernel_rfl) g2;obtain⟨n3,e3,w3⟩:=Z5 (k:=.i64) (by kernel_rfl) g3;obtain⟨n4,e4,w4⟩:=Z5 (k:=.i64) (by kernel_rfl) g4;obtain⟨n5,e5,w5⟩:=Z5 (k:=.i64) (by kernel_rfl) g5;simp at e0 e1 e2 e3 e4 e5;subst e0 e1 e2 e3 e4 e5;exact⟨n0,n1,n2,n3,n4,n5,rfl,by have:=bounds_u32 w0;unfold u32;omega⟩
theorem res_of_sh {D:Nat} {l:List SV} (h:Sh Tryz.prog (D+3) 62 l):∃ s:Res,l=s.cs∧wfR s:=by
 obtain⟨h1,h2⟩:=sh_fields (ps:=[(0,3),(1,3),(2,3),(3,3),(4,25),(5,3),(6,3),(7,3),(8,4),(9,4),(10,3),(11,60)]) (by kernel_rfl) (by kernel_rfl) h;have hc:Tryz.prog.cellsOf 62=17:=by kernel_rfl
 have c1:Tryz.prog.cellsOf 3=1:=by kernel_rfl
 have c2:Tryz.prog.cellsOf 25=1:=by kernel_rfl
 have c3:Tryz.prog.cellsOf 4=1:=by kernel_rfl
 have c4:Tryz.prog.cellsOf 60=6:=by kernel_rfl
 rw[hc] at h1
 match l,h1 with
 | [x0,x1,x2,x3,x4,x5,x6,x7,x8,x9,x10,x11,x12,x13,x14,x15,x16],_=>
  have g0:=h2 (0,3) (by simp);have g1:=h2 (1,3) (by simp);have g2:=h2 (2,3) (by simp);have g3:=h2 (3,3) (by simp);have g4:=h2 (4,25) (by simp);have g5:=h2 (5,3) (by simp);have g6:=h2 (6,3) (by simp);have g7:=h2 (7,3) (by simp);have g8:=h2 (8,4) (by simp);have g9:=h2 (9,4) (by simp);have g10:=h2 (10,3) (by simp);have g11:=h2 (11,60) (by simp);simp only[c1,c2,c3,c4] at g0 g1 g2 g3 g4 g5 g6 g7 g8 g9 g10 g11;obtain⟨n0,e0,w0⟩:=Z5 (k:=.i64) (by kernel_rfl) g0;obtain⟨n1,e1,w1⟩:=Z5 (k:=.i64) (by kernel_rfl) g1;obtain⟨n2,e2,w2⟩:=Z5 (k:=.i64) (by kernel_rfl) g2;obtain⟨n3,e3,w3⟩:=Z5 (k:=.i64) (by kernel_rfl) g3;obtain⟨n4,e4,w4⟩:=Z5 (k:=.u32) (by kernel_rfl) g4;obtain⟨n5,e5,w5⟩:=Z5 (k:=.i64) (by kernel_rfl) g5;obtain⟨n6,e6,w6⟩:=Z5 (k:=.i64) (by kernel_rfl) g6;obtain⟨n7,e7,w7⟩:=Z5 (k:=.i64) (by kernel_rfl) g7;obtain⟨n8,e8⟩:=sh_bool (by kernel_rfl) g8;obtain⟨n9,e9⟩:=sh_bool (by kernel_rfl) g9;obtain⟨n10,e10,w10⟩:=Z5 (k:=.i64) (by kernel_rfl) g10;obtain⟨a,b,c,d,e,f,e11,w11⟩:=ans_of_sh g11;simp at e0 e1 e2 e3 e4 e5 e6 e7 e8 e9 e10 e11;obtain⟨q1,q2,q3,q4,q5,q6⟩:=e11;subst e0 e1 e2 e3 e4 e5 e6 e7 e8 e9 e10 q1 q2 q3 q4 q5 q6;exact⟨⟨n0,n1,n2,n3,n4,n5,n6,n7,n8,n9,n10,a,b,c,d,e,f⟩,rfl,by have:=bounds_u32 w4;show u32 n4;unfold u32;omega,w11⟩
theorem res_rd {n:Nat} {rd:Nat→Nat→SV} (xs:List Res) (h:rdEq xs.length 17 rd fun i j=>(Res.cs (xs.getD i default)).getD j default):rdEq xs.length 17 rd (Qk xs.toArray):=fun i j hi hj=>by
 rw[h i j hi hj];unfold Qk;rw[List.getElem!_toArray];simp [List.getD,getElem!_def,hi]
end
end Go.Proofs.YtfeiiadligkamaaGreat
