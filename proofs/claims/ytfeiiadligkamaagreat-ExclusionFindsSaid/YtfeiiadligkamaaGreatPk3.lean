import Derived.Test.YtfeiiadligkamaaGreatPk2
import Derived.Shelf.SlSortCmp.NoneTotal
import Derived.RangeFuncRecord
import Derived.TacticsIn
import Derived.RangeFuncLeaves
import Derived.Sort.LoopGhostIn
import Derived.Laws.IdiomRangeMap
import Derived.WideKeyEntry
namespace Go.Proofs.YtfeiiadligkamaaGreat
set_option linter.unusedSimpArgs false
set_option linter.unusedVariables false
section
namespace Eng
structure Row where
 need:Nat
 dst:Nat
 looks:Nat
 kind:Nat
 deriving DecidableEq
def maskL:List Nat→Nat
 | []=>0
 | t :: l=>(1 <<< t) ||| maskL l
theorem maskL_bit:∀ (l:List Nat) (t:Nat),(maskL l).testBit t=l.contains t
 | [],t=>by simp [maskL]
 | u :: l,t=>by
  rw[maskL,Nat.testBit_or,maskL_bit l t,List.contains_cons]
  congr 1
  rw[Nat.one_shiftLeft,Nat.testBit_two_pow];by_cases h:u=t
  ·subst h;simp
  ·simp [h,Ne.symm h]
def kindB (o:Oper):Nat:=bif wless o.op then 0 else bif loadOp o.op then 1 else 2
def dstOf (o:Oper):Nat:=match o.dst with|some d=>d+1|none=>0
def rowOf (md:Region.Mode) (ops:Array Oper) (o:Oper):Row:=⟨maskL ((o.after.toList.filter (Region.binds md)).map (·.on)),dstOf o,maskL (o.looksAt ops),kindB o⟩
def tabOk (md:Region.Mode) (ops:Array Oper) (n:Nat):List Oper→List Row→Bool
 | [],[]=>true
 | o :: l,r :: T=>Nat.beq (maskL ((o.after.toList.filter (Region.binds md)).map (·.on))) r.need && Nat.beq (dstOf o) r.dst && Nat.beq (maskL (o.looksAt ops)) r.looks && Nat.beq (kindB o) r.kind && Nat.blt r.need (2 ^ n) && tabOk md ops n l T
 | _,_=>false
theorem XK {md:Region.Mode} {ops:Array Oper} {n:Nat}:∀ (l:List Oper) (T:List Row),tabOk md ops n l T=true→T.length=l.length∧∀ (j:Nat) (o:Oper),l[j]? = some o→T[j]? = some (rowOf md ops o)∧(rowOf md ops o).need<2 ^ n
 | [],[],_=>⟨rfl,fun j o h=>by simp at h⟩
 | [],_ :: _,h=>by simp [tabOk] at h
 | _ :: _,[],h=>by simp [tabOk] at h
 | o :: l,r :: T,h=>by
  simp only[tabOk,Bool.and_eq_true,Nat.beq_eq,Nat.blt_eq] at h;obtain⟨⟨⟨⟨⟨h1,h2⟩,h3⟩,h4⟩,h5⟩,h6⟩:=h;obtain⟨g1,g2⟩:=XK l T h6;refine⟨by simp [g1],fun j o' hj=>?_⟩;cases j with
  | zero=>
   simp only[List.getElem?_cons_zero,Option.some.injEq] at hj ⊢;subst hj;have e:r=rowOf md ops o:=by cases r;simp only at *;subst h1;subst h2;subst h3;subst h4;rfl
   rw[← e];exact⟨rfl,h5⟩
  | succ j=>
   simp only[List.getElem?_cons_succ] at hj ⊢;exact g2 j o' hj
def lst (n mask:Nat):Array Bool:=((List.range n).map mask.testBit).toArray
theorem lst_getD (n mask j:Nat) (d:Bool):(lst n mask).getD j d=if j<n then mask.testBit j else d:=by
 unfold lst;by_cases h:j<n
 ·simp [Array.getD,h]
 ·simp [Array.getD,h]
theorem lst_set {n mask k:Nat}:(lst n mask).setIfInBounds k true=lst n (mask ||| (1 <<< k)):=by
 apply Array.ext';unfold lst;simp only[List.setIfInBounds_toArray];apply List.ext_getElem?;intro j;rw[List.getElem?_set];simp only[List.length_map,List.length_range,List.getElem?_map];by_cases hj:j<n
 ·rw[List.getElem?_range hj];by_cases e:k=j
  ·subst e;rw[if_pos rfl,if_pos hj,Option.map_some,Nat.testBit_or,Nat.one_shiftLeft,Nat.testBit_two_pow];simp
  ·rw[if_neg e,Option.map_some,Option.map_some,Nat.testBit_or,Nat.one_shiftLeft,Nat.testBit_two_pow];simp [e]
 ·rw[List.getElem?_eq_none (by simp;omega)];split
  ·subst_vars;simp [hj]
  ·rfl
theorem lst_zero (n:Nat):lst n 0=Array.replicate n false:=by
 apply Array.ext';unfold lst;apply List.ext_getElem?;intro j;simp only[List.getElem?_map,Array.toList_replicate,List.getElem?_replicate];by_cases hj:j<n
 ·rw[List.getElem?_range hj];simp [hj]
 ·rw[List.getElem?_eq_none (by simp;omega)];simp [hj]
def allI (f:Nat→Row→Bool):Nat→List Row→Bool
 | _,[]=>true
 | i,r :: T=>f i r && allI f (i+1) T
theorem allI_get {f:Nat→Row→Bool}:∀ (T:List Row) (i:Nat),allI f i T=true→∀ (j:Nat) (r:Row),T[j]? = some r→f (i+j) r=true
 | [],i,h,j,r,hj=>by simp at hj
 | r :: T,i,h,j,r',hj=>by
  simp only[allI,Bool.and_eq_true] at h;cases j with
  | zero=>simp only[List.getElem?_cons_zero,Option.some.injEq] at hj;subst hj;exact h.1
  | succ j=>
   simp only[List.getElem?_cons_succ] at hj;have:=allI_get T (i+1) h.2 j r' hj
   rwa [Nat.add_right_comm,Nat.add_assoc] at this
def readyR (mask i:Nat) (r:Row):Bool:=!mask.testBit i && Nat.beq (r.need &&& mask) r.need
def apartR (x y:Row):Bool:=(Nat.beq x.dst 0 || (!y.looks.testBit (x.dst - 1) && !Nat.beq y.dst x.dst)) && (Nat.beq y.dst 0 || !x.looks.testBit (y.dst - 1))
def freeR (T:List Row) (mask k:Nat) (rk:Row):Bool:=allI (fun j r=>Nat.beq j k || mask.testBit j || r.need.testBit k || apartR rk r) 0 T
def blkR (k:Nat):Nat→List Row→Nat→Nat
 | _,[],acc=>acc
 | j,r :: T,acc=>blkR k (j+1) T (bif Nat.beq j k || !Nat.beq (r.need &&& acc) 0 then acc ||| (1 <<< j) else acc)
def blkC (T:List Row) (k B mask W:Nat):Bool:=
 allI (fun j r=>(!B.testBit j || ((Nat.beq j k || !Nat.beq (r.need &&& B) 0) && !mask.testBit j)) && (Nat.beq j k || mask.testBit j || B.testBit j || W.testBit j)) 0 T && Nat.blt B (2 ^ T.length)
def chkX (T:List Row) (W:Nat):List Nat→Nat→(Nat→Bool)→Bool
 | [],mask,f=>f mask
 | k :: r,mask,f=>(match T[k]? with|some rk=>readyR mask k rk && freeR T mask k rk && W.testBit k && (Nat.beq rk.kind 0 || (Nat.beq rk.kind 1 && blkC T k (blkR k 0 T 0) mask W))|none=>false) && chkX T W r (mask ||| (1 <<< k)) f
def chkB (T:List Row):List (Nat×Bool)→Nat→Bool
 | [],mask=>allI (fun j r=>!readyR mask j r) 0 T
 | (k,false) :: r,mask=>(match T[k]? with|some rk=>readyR mask k rk|none=>false) && allI (fun j r=>Nat.beq j k || !readyR mask j r) 0 T && chkB T r (mask ||| (1 <<< k))
 | (k,true) :: r,mask=>(match T[k]? with|some rk=>readyR mask k rk && Nat.beq rk.kind 0 && freeR T mask k rk|none=>false) && chkB T r (mask ||| (1 <<< k))
def chkR (T:List Row) (X:List Nat) (B:List (Nat×Bool)) (ws:List Nat):Bool:=chkX T (maskL X ||| maskL ws) X 0 fun mask=>chkB T B mask
def keepC (l:List Oper) (T:List Row) (X:List Nat) (B:List (Nat×Bool)) (ws:List Nat):Bool:=Region.noSelect l.toArray && tabOk .any l.toArray l.length l T && chkR T X B ws && Nat.beq (X.length+B.length) l.length
def BT.seq:List (Nat×Bool)→BT
 | []=>.done
 | (i,false) :: r=>.one i (BT.seq r)
 | (i,true) :: r=>.free i (BT.seq r)
theorem btseq_nil:BT.seq []=.done:=rfl
theorem btseq_cons (i:Nat) (r:List (Nat×Bool)):BT.seq ((i,false) :: r)=.one i (BT.seq r):=rfl
theorem btseq_free (i:Nat) (r:List (Nat×Bool)):BT.seq ((i,true) :: r)=.free i (BT.seq r):=rfl
section
variable {l:List Oper} {T:List Row} {mask:Nat}
theorem ready_iff (ht:tabOk .any l.toArray l.length l T=true) {j:Nat} {r:Row} (hr:T[j]? = some r):(j∈Region.ready .any l.toArray (lst l.length mask)) ↔ readyR mask j r=true:=by
 obtain⟨hlen,hget⟩:=XK l T ht;have hj:j<l.length:=by rw[← hlen];exact (List.getElem?_eq_some_iff.1 hr).1
 obtain⟨h1,h2⟩:=hget j l[j] (by simp [hj]);rw[hr,Option.some.injEq] at h1;subst h1;rw[mem_ready,lst_getD,if_pos hj];unfold readyR;simp only[Bool.and_eq_true,Bool.not_eq_true',Nat.beq_eq];refine and_congr Iff.rfl ?_
 have hbit:∀ t,(rowOf .any l.toArray l[j]).need.testBit t=true ↔ ∃ e∈l[j].after,Region.binds .any e=true∧e.on=t:=by
  intro t;simp only[rowOf,maskL_bit,List.contains_iff_mem,List.mem_map,List.mem_filter,Array.mem_toList_iff];constructor
  ·rintro⟨e,⟨h1,h2⟩,h3⟩;exact⟨e,h1,h2,h3⟩
  ·rintro⟨e,h1,h2,h3⟩;exact⟨e,⟨h1,h2⟩,h3⟩
 have hlt:∀ t,(rowOf .any l.toArray l[j]).need.testBit t=true→t<l.length:=by
  intro t ht;rcases Nat.lt_or_ge t l.length with h|h
  ·exact h
  ·have:=Nat.testBit_lt_two_pow (Nat.lt_of_lt_of_le h2 (Nat.pow_le_pow_right (by omega) h));rw[this] at ht;cases ht
 constructor
 ·rintro⟨o,ho,hall⟩;have ho':o=l[j]:=by simpa [hj] using ho.symm
  subst ho';apply Nat.eq_of_testBit_eq;intro t;rw[Nat.testBit_and];cases hb:(rowOf .any l.toArray l[j]).need.testBit t with
  | false=>rfl
  | true=>
   obtain⟨e,he,hbd,hon⟩:=(hbit t).1 hb;have:=hall e he hbd;rw[lst_getD,hon,if_pos (hlt t hb)] at this;rw[this];rfl
 ·intro h;refine⟨l[j],by simp [hj],fun e he hbd=>?_⟩;have hb:=(hbit e.on).2 ⟨e,he,hbd,rfl⟩;have h9:((rowOf .any l.toArray l[j]).need &&& mask).testBit e.on=true:=by rw[h];exact hb
  rw[Nat.testBit_and,hb,Bool.true_and] at h9;rw[lst_getD,if_pos (hlt _ hb)];exact h9
theorem apart_of {x y:Oper} {ops:Array Oper} (h:apartR (rowOf .any ops x) (rowOf .any ops y)=true):x.apart ops y=true:=by
 unfold apartR rowOf dstOf at h;unfold Oper.apart;simp only[maskL_bit,Bool.and_eq_true,Bool.or_eq_true,Nat.beq_eq,Bool.not_eq_true'] at h;obtain⟨h1,h2⟩:=h;simp only[Bool.and_eq_true];refine⟨?_,?_⟩
 ·cases hx:x.dst with
  | none=>rfl
  | some d=>
   rw[hx] at h1;simp only[Nat.add_sub_cancel] at h1;rcases h1 with h1|⟨h1,h3⟩
   ·omega
   ·simp only[Bool.and_eq_true,Bool.not_eq_true',bne_iff_ne];refine⟨h1,fun e=>?_⟩;rw[e] at h3;simp at h3
 ·cases hy:y.dst with
  | none=>rfl
  | some d=>
   rw[hy] at h2;simp only[Nat.add_sub_cancel] at h2;rcases h2 with h2|h2
   ·omega
   ·simpa using h2
theorem row_at (ht:tabOk .any l.toArray l.length l T=true) {j:Nat} {o:Oper} (ho:l.toArray[j]? = some o):T[j]? = some (rowOf .any l.toArray o):=((XK l T ht).2 j o (by simpa using ho)).1
theorem need_bit {ops:Array Oper} {o:Oper} {t:Nat}:(rowOf .any ops o).need.testBit t=true ↔ ∃ e∈o.after,Region.binds .any e=true∧e.on=t:=by
 simp only[rowOf,maskL_bit,List.contains_iff_mem,List.mem_map,List.mem_filter,Array.mem_toList_iff];constructor
 ·rintro⟨e,⟨h1,h2⟩,h3⟩;exact⟨e,h1,h2,h3⟩
 ·rintro⟨e,h1,h2,h3⟩;exact⟨e,⟨h1,h2⟩,h3⟩
theorem free_of (ht:tabOk .any l.toArray l.length l T=true) {k:Nat} {o:Oper} (ho:l.toArray[k]? = some o) (h:freeR T mask k (rowOf .any l.toArray o)=true):Region.free .any l.toArray (lst l.length mask) k=true:=by
 unfold Region.free;rw[ho];refine List.all_eq_true.2 fun j hj=>?_;have hj':j<l.length:=by simpa using hj
 have hoj:l.toArray[j]? = some l[j]:=by simp [hj']
 have h1:=allI_get T 0 h j _ (row_at ht hoj);rw[Nat.zero_add] at h1;simp only[Bool.or_eq_true,Nat.beq_eq] at h1;simp only[hoj,Bool.or_eq_true,beq_iff_eq,lst_getD,if_pos hj'];rcases h1 with ((h1|h1)|h1)|h1
 ·exact .inl (.inl h1)
 ·exact .inl (.inr h1)
 ·obtain⟨e,he,hb,hon⟩:=need_bit.1 h1;refine .inr (.inl (Array.any_eq_true'.2 ⟨e,he,by simp [hb,hon]⟩))
 ·exact .inr (.inr (apart_of h1))
theorem op_at (ht:tabOk .any l.toArray l.length l T=true) {k:Nat} {r:Row} (hr:T[k]? = some r):∃ o,l.toArray[k]? = some o∧r=rowOf .any l.toArray o:=by
 obtain⟨hlen,hget⟩:=XK l T ht;have hj:k<l.length:=by rw[← hlen];exact (List.getElem?_eq_some_iff.1 hr).1
 refine⟨l[k],by simp [hj],?_⟩;have:=(hget k l[k] (by simp [hj])).1;rw[hr,Option.some.injEq] at this;exact this
theorem filter_one {p:Nat→Bool} {k:Nat}:∀ n,k<n→(∀ j,j<n→(p j=true ↔ j=k))→(List.range n).filter p=[k]
 | 0,h,_=>by omega
 | n+1,h,hp=>by
  rw[List.range_succ,List.filter_append];by_cases e:k=n
  ·subst e
   have:(List.range k).filter p=[]:=List.filter_eq_nil_iff.2 fun j hj=>fun h9=>by
    have hj':j<k:=by simpa using hj
    have:=(hp j (by omega)).1 h9;omega
   rw[this];simp [(hp k (by omega)).2 rfl]
  ·rw[filter_one n (by omega) fun j hj=>hp j (by omega)]
   have:p n=false:=by
    cases h9:p n with
    | false=>rfl
    | true=>have:=(hp n (by omega)).1 h9;omega
   simp [this]
theorem ready_one (ht:tabOk .any l.toArray l.length l T=true) {k:Nat} {rk:Row} (hk:T[k]? = some rk) (h1:readyR mask k rk=true) (h2:allI (fun j r=>Nat.beq j k || !readyR mask j r) 0 T=true):Region.ready .any l.toArray (lst l.length mask)=[k]:=by
 obtain⟨hlen,_⟩:=XK l T ht;have hk':k<l.length:=by rw[← hlen];exact (List.getElem?_eq_some_iff.1 hk).1
 have hm:∀ j,j<l.length→(j∈Region.ready .any l.toArray (lst l.length mask) ↔ j=k):=by
  intro j hj;have hrj:T[j]? = some T[j]:=by simp [hlen,hj]
  rw[ready_iff ht hrj];constructor
  ·intro h9;have:=allI_get T 0 h2 j _ hrj;rw[Nat.zero_add] at this;simp only[Bool.or_eq_true,Nat.beq_eq,Bool.not_eq_true'] at this;rcases this with this|this
   ·exact this
   ·rw[this] at h9;cases h9
  ·rintro rfl;rw[hk] at hrj;simp only[Option.some.injEq] at hrj;rw[← hrj];exact h1
 unfold Region.ready at hm ⊢;refine filter_one _ (by simpa using hk') fun j hj=>?_;have:=hm j (by simpa using hj);rw[List.mem_filter] at this;simp only[List.mem_range] at this;constructor
 ·intro h9;exact this.1 ⟨hj,h9⟩
 ·intro h9;exact (this.2 h9).2
theorem ready_none (ht:tabOk .any l.toArray l.length l T=true) (h2:allI (fun j r=>!readyR mask j r) 0 T=true):Region.ready .any l.toArray (lst l.length mask)=[]:=by
 obtain⟨hlen,_⟩:=XK l T ht;refine List.eq_nil_iff_forall_not_mem.2 fun j hj=>?_
 have hj':j<l.length:=by
  obtain⟨_,o,ho,_⟩:=mem_ready.1 hj
  simpa using (Array.getElem?_eq_some_iff.1 ho).1
 have hrj:T[j]? = some T[j]:=by simp [hlen,hj']
 have:=allI_get T 0 h2 j _ hrj;rw[Nat.zero_add,(ready_iff ht hrj).1 hj] at this;cases this
theorem kind0 {o:Oper} (h:kindB o=0):wless o.op=true:=by
 unfold kindB at h;cases hw:wless o.op with
 | true=>rfl
 | false=>
  rw[hw] at h;cases hl:loadOp o.op<;>rw[hl] at h<;>cases h
theorem chkB_ok (ht:tabOk .any l.toArray l.length l T=true):∀ (B:List (Nat×Bool)) (mask:Nat),chkB T B mask=true→btGo .any l.toArray (BT.seq B) true B.length (lst l.length mask)=true
 | [],mask,h=>by
  simp only[BT.seq,btGo,List.length_nil,beq_self_eq_true,Bool.true_and];rw[ready_none ht h];rfl
 | (k,true) :: r,mask,h=>by
  simp only[chkB,Bool.and_eq_true] at h;obtain⟨h1,h3⟩:=h;cases hk:T[k]? with
  | none=>rw[hk] at h1;cases h1
  | some rk=>
   rw[hk] at h1;obtain⟨o,ho,rfl⟩:=op_at ht hk;simp only[Bool.and_eq_true,Nat.beq_eq] at h1;obtain⟨⟨h1,h4⟩,h5⟩:=h1;simp only[BT.seq,btGo,List.length_cons,Bool.and_eq_true];refine⟨⟨⟨by simpa using (ready_iff ht hk).2 h1,by rw[ho];exact kind0 h4⟩,free_of ht ho h5⟩,?_⟩;rw[lst_set];exact chkB_ok ht r _ h3
 | (k,false) :: r,mask,h=>by
  simp only[chkB,Bool.and_eq_true] at h;obtain⟨⟨h1,h2⟩,h3⟩:=h;cases hk:T[k]? with
  | none=>rw[hk] at h1;cases h1
  | some rk=>
   rw[hk] at h1;obtain⟨o,ho,rfl⟩:=op_at ht hk;simp only[BT.seq,btGo,List.length_cons,Bool.and_eq_true,beq_iff_eq];refine⟨⟨ready_one ht hk h1 h2,by rw[ho];rfl⟩,?_⟩;rw[lst_set];exact chkB_ok ht r _ h3
theorem kind1 {o:Oper} (h:kindB o=1):loadOp o.op=true:=by
 unfold kindB at h;cases hw:wless o.op with
 | true=>rw[hw] at h;cases h
 | false=>
  rw[hw] at h;cases hl:loadOp o.op with
  | false=>rw[hl] at h;cases h
  | true=>rfl
theorem blkC_ok (ht:tabOk .any l.toArray l.length l T=true) (W:Nat→Bool) (Wm:Nat) (hW:∀ j,Wm.testBit j=true→W j=true) {k:Nat} (h6:blkC T k (blkR k 0 T 0) mask Wm=true) :
  ∃ Bl:Nat→Bool,(∀ j oj,l.toArray[j]? = some oj→Bl j=true→j≠k→∃ e∈oj.after,Region.binds .any e=true∧Bl e.on=true)∧(∀ j,Bl j=true→(lst l.length mask).getD j false=false) ∧
   ∀ j,j<l.toArray.size→j=k∨(lst l.length mask).getD j true=true∨Bl j=true∨W j=true:=by
 refine⟨fun j=>(blkR k 0 T 0).testBit j,?_,?_,?_⟩
 ·intro j oj hoj hb hne;simp only[blkC,Bool.and_eq_true] at h6;have h9:=allI_get T 0 h6.1 j _ (row_at ht hoj);rw[Nat.zero_add] at h9;simp only[hb,Bool.and_eq_true,Bool.or_eq_true,Bool.not_true,Bool.false_eq_true,false_or,Nat.beq_eq,hne,Bool.not_eq_true'] at h9
  have hne0:(rowOf .any l.toArray oj).need &&& blkR k 0 T 0≠0:=by
   intro h0;have:=h9.1.1;rw[h0] at this;simp at this
  obtain⟨t,ht'⟩:=Nat.exists_testBit_of_ne_zero hne0;rw[Nat.testBit_and,Bool.and_eq_true] at ht';obtain⟨e,he,hbd,hon⟩:=need_bit.1 ht'.1;exact⟨e,he,hbd,by rw[hon];exact ht'.2⟩
 ·intro j hb
  replace hb:(blkR k 0 T 0).testBit j=true:=hb
  simp only[blkC,Bool.and_eq_true,Nat.blt_eq] at h6;obtain⟨hlen,_⟩:=XK l T ht
  have hj:j<l.length:=by
   rcases Nat.lt_or_ge j l.length with h|h
   ·exact h
   ·have:=Nat.testBit_lt_two_pow (Nat.lt_of_lt_of_le h6.2 (Nat.pow_le_pow_right (by omega) (by omega:T.length≤j)));rw[this] at hb;cases hb
  have hrj:T[j]? = some T[j]:=by simp [hlen,hj]
  have h9:=allI_get T 0 h6.1 j _ hrj;rw[Nat.zero_add] at h9;rw[lst_getD,if_pos hj];simp only[hb,Bool.and_eq_true,Bool.or_eq_true,Bool.not_true,Bool.false_eq_true,false_or,Bool.not_eq_true'] at h9;exact h9.1.2
 ·intro j hj;have hj':j<l.length:=by simpa using hj
  simp only[blkC,Bool.and_eq_true] at h6;obtain⟨hlen,_⟩:=XK l T ht;have hrj:T[j]? = some T[j]:=by simp [hlen,hj']
  have h9:=allI_get T 0 h6.1 j _ hrj;rw[Nat.zero_add] at h9;simp only[Bool.and_eq_true,Bool.or_eq_true,Nat.beq_eq] at h9;rw[lst_getD,if_pos hj'];rcases h9.2 with ((h9|h9)|h9)|h9
  ·exact .inl h9
  ·exact .inr (.inl h9)
  ·exact .inr (.inr (.inl h9))
  ·exact .inr (.inr (.inr (hW j h9)))
theorem chkX_ok (ht:tabOk .any l.toArray l.length l T=true) (W:Nat→Bool) (Wm:Nat) (hW:∀ j,Wm.testBit j=true→W j=true) (bt:BT) (m:Nat) (f:Nat→Bool) (hf:∀ mask,f mask=true→btGo .any l.toArray bt true m (lst l.length mask)=true):∀ (X:List Nat) (mask:Nat),chkX T Wm X mask f=true→PreP .any l.toArray bt m W X (lst l.length mask)
 | [],mask,h=>hf mask h
 | k :: r,mask,h=>by
  simp only[chkX,Bool.and_eq_true] at h;obtain⟨h1,h3⟩:=h;cases hk:T[k]? with
  | none=>rw[hk] at h1;cases h1
  | some rk=>
   rw[hk] at h1;obtain⟨o,ho,rfl⟩:=op_at ht hk;simp only[Bool.and_eq_true,Bool.or_eq_true,Nat.beq_eq] at h1;obtain⟨⟨⟨h1,h5⟩,h4⟩,h6⟩:=h1;refine⟨(ready_iff ht hk).2 h1,free_of ht ho h5,hW k h4,⟨o,ho,h6.imp kind0 fun h9=>⟨kind1 h9.1,blkC_ok ht W Wm hW h9.2⟩⟩,?_⟩;rw[lst_set];exact chkX_ok ht W Wm hW bt m f hf r _ h3
end
section
variable {P:Program} {F:Frm} {l:List Oper} {T:List Row} {Q:Exit→Act→World→Prop} {k:St→Prop} {R0:Nat→Prop} {w0:Org}
theorem Sat.region_rows {K:Exit→St→Prop} {st:St} {id:Nat} {l:List Oper} (T:List Row) (X:List Nat) (B:List (Nat×Bool)) (ws:List Nat) (hm:P.follows .mixedOrders=true) (hB:keepC l T X B ws=true) (hpan:∀ c st,¬ K (.panic c) st)
  (h:∀ k:St→Prop,(∀ st',K .normal st'→k st')→WO P F (l.map (·.dst)) (X.map fun i=>l.getD i default) st fun st2=>WBT P F (l.map (·.dst)) l st.own (keepW X ws) true (BT.seq B) st2 k):Sat P F (.region id l.toArray true) st K:=by
 rintro R0 w0 a w ⟨ob,R,hr⟩;simp only[keepC,chkR,Bool.and_eq_true,Nat.beq_eq] at hB;obtain⟨⟨⟨hsel,ht⟩,hc⟩,hlen⟩:=hB;have hdrew:Grown w { w with drawn:=w.drawn+1 }:=⟨rfl,rfl,rfl,Nat.le_refl _,fun _ _ _=>rfl,Nat.le_succ _⟩;refine wp_region_any hm ?_;have hpan':∀ c a w,¬ (fun e a' w'=>∃ st',K e st'∧Rel F R0 w0 st' a' w') (.panic c) a w:=fun c a w ⟨st',hk,_⟩=>hpan c st' hk;have:=keep_sound (P:=P) (F:=F) (R0:=R0) (w0:=w0) (Q:=fun e a' w'=>∃ st',K e st'∧Rel F R0 w0 st' a' w') (k:=K .normal) hpan' hsel X ws (BT.seq B) B.length (lst l.length 0) st a { w with drawn:=w.drawn+1 }
  (chkX_ok ht (keepW X ws) _ (fun j hj=>by rw[Nat.testBit_or,maskL_bit,maskL_bit] at hj;exact hj) (BT.seq B) B.length _ (fun mask hb=>chkB_ok ht B mask hb) X 0 hc)
  (by simpa using h _ fun _ h=>h) ⟨ob,R,hr.grown hdrew⟩ (fun st' a' w' hk hr'=>⟨st',hk,hr'⟩)
 rw[hlen,lst_zero] at this
 simpa using this
theorem ZE {c:Code} {K:Exit→St→Prop} {n:Nat} {env:List (Nat×SV)} {own:List Own} (id:Nat) {a:Option Addr} {e len cap sz:Nat} {rd:Nat→Nat→SV} (hl:own[id]? = some (.row a e len cap sz rd)) (h:len≤cap→Sat P F c ⟨n,env,own⟩ K):Sat P F c ⟨n,env,own⟩ K:=by
 rintro R0 w0 ac w ⟨ob,R,hr⟩;refine h ?_ R0 w0 ac w ⟨ob,R,hr⟩;rcases (hr.own _ _ hl).1.2 with ⟨hv,h0⟩|⟨g,cap',cur,hv,_,_,hn,_⟩
 ·simp only[Value.slice.injEq] at hv;omega
 ·simp only[Value.slice.injEq] at hv;omega
theorem Sat.adoptBox {c:Code} {K:Exit→St→Prop} {n:Nat} {env:List (Nat×SV)} {own:List Own} (id j:Nat) (e sz:Nat) (rd:Nat→Nat→SV) {blk ty sz0:Nat} {cs:List SV} {rd0:Nat→Nat→SV} (hl:own[id]? = some (.box blk ty cs)) (hj:cs[j]? = some (.sl none 0 0 sz0 rd0))
  (h:Sat P F c ⟨n,env,own.set id (.box blk ty (cs.set j (.os own.length none 0 0))) ++ [.row none e 0 0 sz rd]⟩ K):Sat P F c ⟨n,env,own⟩ K:=by
 rintro R0 w0 a w ⟨ob,R,hr⟩;refine h R0 w0 a w ⟨ob,R,?_⟩;have hbox:=hr.own id _ hl;have hidl:id<own.length:=(List.getElem?_eq_some_iff.1 hl).1;have hjl:j<cs.length:=(List.getElem?_eq_some_iff.1 hj).1
 have hden:(cs.set j (.os own.length none 0 0)).map SV.den=cs.map SV.den:=by
  apply List.ext_getElem?;intro q;rw[List.getElem?_map,List.getElem?_map,List.getElem?_set];by_cases e:j=q
  ·subst e;rw[if_pos rfl,if_pos hjl,hj];rfl
  ·rw[if_neg e]
 have hok:(Own.box blk ty (cs.set j (.os own.length none 0 0))).ok R ob w:=by
  refine⟨hbox.1,hbox.2.1,by rw[hden];exact hbox.2.2.1,fun x hx=>?_⟩;rcases List.mem_or_eq_of_mem_set hx with hx|rfl
  ·exact hbox.2.2.2 x hx
  ·exact⟨rfl,trivial⟩
 have h1:RelR F R0 w0 ob R ⟨n,env,own.set id (.box blk ty (cs.set j (.os own.length none 0 0)))⟩ a w:=by
  refine⟨hr.defers,hr.env,hr.size,?_,?_,hr.evo,hr.inv,hr.obM,?_,hr.obw,hr.rr,hr.r0⟩
  ·intro i x hx;rw[List.getElem?_set] at hx;split at hx
   ·simp only[hidl,if_true,Option.some.injEq] at hx;subst hx;exact hok
   ·exact hr.own i x hx
  ·intro i k x y hik hx hy b hb1 hb2;rw[List.getElem?_set] at hx hy;split at hx<;>split at hy
   ·omega
   ·rename_i e1 _;subst e1;simp only[hidl,if_true,Option.some.injEq] at hx;subst hx;exact hr.dist id k _ y hik hl hy b hb1 hb2
   ·rename_i _ e1;subst e1;simp only[hidl,if_true,Option.some.injEq] at hy;subst hy;exact hr.dist i id x _ hik hx hl b hb1 hb2
   ·exact hr.dist i k x y hik hx hy b hb1 hb2
  ·exact gb_set (m:=w0.w.heap.size) (Nat.le_refl _) hr.gb hl fun b hb=>.inl hb
 exact h1.newRow (o:=.row none e 0 0 sz rd) (w':=w) (grown_refl w none) (fun b hb=>by cases hb) ⟨by simpa [cellsOf] using World.ownsRow_nil w _ e sz,(fun g hg=>by cases hg),(fun i j hi=>absurd hi (Nat.not_lt_zero _))⟩
theorem sim_nil (sz sz':Nat) (rd rd':Nat→Nat→SV):sim (.sl none 0 0 sz rd) (.sl none 0 0 sz' rd'):=⟨rfl,fun R w h=>⟨h.1,h.2.1,.inl rfl⟩⟩
theorem sim_tup2 {s s' t t':SV} (h0:sim s s') (h1:sim t t'):sim (Xh [s,t]) (Xh [s',t']):=by
 refine⟨?_,fun R w h j hj=>?_⟩
 ·simp only[Xh,SV.den,List.length_cons,List.length_nil]
  have:(List.range (0+1+1))=[0,1]:=rfl
  rw[this];simp only[List.map_cons,List.map_nil,List.getD_cons_zero,List.getD_cons_succ,h0.1,h1.1]
 ·have hj':j<2:=hj;rcases (show j=0∨j=1 by omega) with rfl|rfl
  ·exact h0.2 R w (h 0 (by simp))
  ·exact h1.2 R w (h 1 (by simp))
theorem ContractN.toC {f:FuncId} {args:List SV} {post:Own→Prop} (h:ContractN F P f args post):Contract F P f args (fun r=>∃ a ty len cap sz rd,r=.sl a len cap sz rd∧post (.row a ty len cap sz rd)):=by
 refine⟨h.enters,fun R w hinv hargs hR=>(h.calls R w hinv hargs hR).mono ?_⟩;rintro e w' ⟨a,ty,len,cap,sz,rd,R',rfl,hpost,hRR,hR',ho,hevo,hinv'⟩;refine⟨.sl a len cap sz rd,rfl,⟨a,ty,len,cap,sz,rd,rfl,hpost⟩,?_,hevo,hinv'⟩;refine QD (R:=fun b=>R' b∨(Own.row a ty len cap sz rd).blk=some b) (fun b hb=>?_) (fun _ _=>rfl) _ (row_sl ho (fun _ h=>.inl h) fun b hb=>.inr hb);rcases hb with hb|hb
 ·exact hR' b hb
 ·exact .inr ⟨(Qw ho hb).1,(Qw ho hb).2.1⟩
theorem Contract.same {f:FuncId} {args:List SV} {post post':SV→Prop} (h:Contract F P f args post) (hp:∀ r,post r→∃ r',sim r r'∧post' r'):Contract F P f args post':=by
 refine⟨h.enters,fun R w hinv hargs hR=>(h.calls R w hinv hargs hR).mono ?_⟩;rintro e w' ⟨r,rfl,hpost,hok,hevo,hinv'⟩;obtain⟨r',hs,hp'⟩:=hp r hpost;exact⟨r',by rw[hs.1],hp',hs.2 _ _ hok,hevo,hinv'⟩
end
end Eng
end

section
namespace Eng
def inL (j:Nat):List Nat→Bool
 | []=>false
 | i :: l=>Nat.beq j i || inL j l
theorem inL_mem {j:Nat}:∀ {l:List Nat},inL j l=true→j∈l
 | i :: l,h=>by
  simp only[inL,Bool.or_eq_true,Nat.beq_eq] at h;rcases h with rfl|h
  ·exact .head _
  ·exact .tail _ (inL_mem h)
def chkBT (T:List Row):BT→Bool→Nat→Nat→Bool
 | .done,_,m,mask=>Nat.beq m 0 && allI (fun j r=>!readyR mask j r) 0 T
 | .free k t,_,m+1,mask=>(match T[k]? with|some rk=>readyR mask k rk && Nat.beq rk.kind 0 && freeR T mask k rk|none=>false) && chkBT T t true m (mask ||| (1 <<< k))
 | .one k t,_,m+1,mask=>(match T[k]? with|some rk=>readyR mask k rk|none=>false) && allI (fun j r=>Nat.beq j k || !readyR mask j r) 0 T && chkBT T t true m (mask ||| (1 <<< k))
 | .alt i t r,top,m+1,mask=>(!top || allI (fun j rr=>!readyR mask j rr || inL j (i :: r.heads)) 0 T) && (match T[i]? with|some ri=>readyR mask i ri|none=>false) && chkBT T t true m (mask ||| (1 <<< i)) && chkBT T r false (m+1) mask
 | .none,top,_,_=>!top
 | _,_,_,_=>false
section
variable {l:List Oper} {T:List Row} {mask:Nat}
theorem chkBT_ok (ht:tabOk .any l.toArray l.length l T=true):∀ (B:BT) (top:Bool) (m mask:Nat),chkBT T B top m mask=true→btGo .any l.toArray B top m (lst l.length mask)=true
 | .done,top,m,mask,h=>by
  simp only[chkBT,Bool.and_eq_true,Nat.beq_eq] at h;simp only[btGo,Bool.and_eq_true,beq_iff_eq];refine⟨h.1,?_⟩;rw[ready_none ht h.2];rfl
 | .free k t,top,0,mask,h=>by simp [chkBT] at h
 | .one k t,top,0,mask,h=>by simp [chkBT] at h
 | .alt i t r,top,0,mask,h=>by simp [chkBT] at h
 | .none,top,m,mask,h=>by simpa [chkBT,btGo] using h
 | .free k t,top,m+1,mask,h=>by
  simp only[chkBT,Bool.and_eq_true] at h;obtain⟨h1,h3⟩:=h;cases hk:T[k]? with
  | none=>rw[hk] at h1;cases h1
  | some rk=>
   rw[hk] at h1;obtain⟨o,ho,rfl⟩:=op_at ht hk;simp only[Bool.and_eq_true,Nat.beq_eq] at h1;obtain⟨⟨h1,h4⟩,h5⟩:=h1;simp only[btGo,Bool.and_eq_true];refine⟨⟨⟨by simpa using (ready_iff ht hk).2 h1,by rw[ho];exact kind0 h4⟩,free_of ht ho h5⟩,?_⟩;rw[lst_set];exact chkBT_ok ht t _ _ _ h3
 | .one k t,top,m+1,mask,h=>by
  simp only[chkBT,Bool.and_eq_true] at h;obtain⟨⟨h1,h2⟩,h3⟩:=h;cases hk:T[k]? with
  | none=>rw[hk] at h1;cases h1
  | some rk=>
   rw[hk] at h1;obtain⟨o,ho,rfl⟩:=op_at ht hk;simp only[btGo,Bool.and_eq_true,beq_iff_eq];refine⟨⟨ready_one ht hk h1 h2,by rw[ho];rfl⟩,?_⟩;rw[lst_set];exact chkBT_ok ht t _ _ _ h3
 | .alt i t r,top,m+1,mask,h=>by
  simp only[chkBT,Bool.and_eq_true] at h;obtain⟨⟨⟨h1,h2⟩,h3⟩,h4⟩:=h;cases hi:T[i]? with
  | none=>rw[hi] at h2;cases h2
  | some ri=>
   rw[hi] at h2;have hmem:=(ready_iff ht hi).2 h2;obtain⟨o,ho,_⟩:=op_at ht hi;simp only[btGo,Bool.and_eq_true];refine⟨⟨⟨⟨?_,?_⟩,by rw[ho];rfl⟩,by rw[lst_set];exact chkBT_ok ht t _ _ _ h3⟩,chkBT_ok ht r _ _ _ h4⟩
   ·cases top with
    | false=>rfl
    | true=>
     simp only[Bool.not_true,Bool.false_or] at h1 ⊢;rw[List.all_eq_true];intro j hj;cases hTj:T[j]? with
     | none=>
      obtain⟨hlen,_⟩:=XK l T ht
      have hlt:j<l.length:=by
       obtain⟨_,o,ho,_⟩:=mem_ready.1 hj
       simpa using (Array.getElem?_eq_some_iff.1 ho).1
      rw[List.getElem?_eq_none_iff] at hTj;omega
     | some rj=>
      have g:=allI_get T 0 h1 j rj hTj;rw[Nat.zero_add,(ready_iff ht hTj).1 hj] at g;simp only[Bool.not_true,Bool.false_or] at g
      simpa using inL_mem g
   ·cases hr:Region.ready .any l.toArray (lst l.length mask) with
    | nil=>rw[hr] at hmem;cases hmem
    | cons a b=>rfl
end
def keepBT (l:List Oper) (T:List Row) (X:List Nat) (B:BT) (m:Nat) (ws:List Nat):Bool:=Region.noSelect l.toArray && tabOk .any l.toArray l.length l T && chkX T (maskL X ||| maskL ws) X 0 (fun mask=>chkBT T B true m mask) && Nat.beq (X.length+m) l.length
section
variable {P:Program} {F:Frm} {l:List Oper} {T:List Row} {Q:Exit→Act→World→Prop} {k:St→Prop} {R0:Nat→Prop} {w0:Org}
theorem Sat.region_bt {K:Exit→St→Prop} {st:St} {id:Nat} {l:List Oper} (T:List Row) (X:List Nat) (B:BT) (m:Nat) (ws:List Nat) (hm:P.follows .mixedOrders=true) (hB:keepBT l T X B m ws=true) (hpan:∀ c st,¬ K (.panic c) st)
  (h:∀ k:St→Prop,(∀ st',K .normal st'→k st')→WO P F (l.map (·.dst)) (X.map fun i=>l.getD i default) st fun st2=>WBT P F (l.map (·.dst)) l st.own (keepW X ws) true B st2 k):Sat P F (.region id l.toArray true) st K:=by
 rintro R0 w0 a w ⟨ob,R,hr⟩;simp only[keepBT,Bool.and_eq_true,Nat.beq_eq] at hB;obtain⟨⟨⟨hsel,ht⟩,hc⟩,hlen⟩:=hB;have hdrew:Grown w { w with drawn:=w.drawn+1 }:=⟨rfl,rfl,rfl,Nat.le_refl _,fun _ _ _=>rfl,Nat.le_succ _⟩;refine wp_region_any hm ?_;have hpan':∀ c a w,¬ (fun e a' w'=>∃ st',K e st'∧Rel F R0 w0 st' a' w') (.panic c) a w:=fun c a w ⟨st',hk,_⟩=>hpan c st' hk;have:=keep_sound (P:=P) (F:=F) (R0:=R0) (w0:=w0) (Q:=fun e a' w'=>∃ st',K e st'∧Rel F R0 w0 st' a' w') (k:=K .normal) hpan' hsel X ws B m (lst l.length 0) st a { w with drawn:=w.drawn+1 }
  (chkX_ok ht (keepW X ws) _ (fun j hj=>by rw[Nat.testBit_or,maskL_bit,maskL_bit] at hj;exact hj) B m _ (fun mask hb=>chkBT_ok ht B true m mask hb) X 0 hc)
  (by simpa using h _ fun _ h=>h) ⟨ob,R,hr.grown hdrew⟩ (fun st' a' w' hk hr'=>⟨st',hk,hr'⟩)
 rw[hlen,lst_zero] at this
 simpa using this
end
end Eng
end

section
open Go.Sort Eng Go.Shelf
namespace Eng
theorem evo_grow {w w':World} (h:Evo (fun _=>False) w w'):∃ (q:Nat) (os:Array Obj),w'=grow (w.drewN q) os:=by
 refine⟨w'.drawn - w.drawn,w'.heap.extract w.heap.size w'.heap.size,?_⟩;obtain⟨h1,h2,h3,h4,h5,h6⟩:=h
 have hh:w'.heap=w.heap ++ w'.heap.extract w.heap.size w'.heap.size:=by
  refine Array.ext_getElem? fun i=>?_;rw[Array.getElem?_append];split
  ·rename_i hi;exact h5 i hi (fun h=>h)
  ·rename_i hi;rw[Array.getElem?_extract];split
   ·rw[show w.heap.size+(i - w.heap.size)=i by omega]
   ·exact Array.getElem?_eq_none (by omega)
 have hd:w'.drawn=w.drawn+(w'.drawn - w.drawn):=by omega
 calc w'=World.mk w'.heap w'.tape w'.drawn w'.os w'.output:=rfl
  _=World.mk (w.heap ++ w'.heap.extract w.heap.size w'.heap.size) w.tape (w.drawn+(w'.drawn - w.drawn)) w.os w.output:=by rw[World.mk.injEq];exact⟨hh,h2,hd,h1,h3⟩
def rdA {α:Type} [Inhabited α] (cs:α→List SV) (d:Array α):Nat→Nat→SV:=fun i j=>(cs d[i]!).getD j default
variable {α:Type} [Inhabited α]
def encA (cs:α→List SV) (d:Array α) (i:Nat):List Value:=(cs d[i]!).map SV.den
theorem encA_arr (cs:α→List SV) (k:Nat) (hk:∀ x,(cs x).length=k) (d:Array α) (i:Nat):(SV.agg k fun j=>(cs d[i]!).getD j default).den=.agg (encA cs d i).toArray:=by
 show Value.agg ((List.range k).map fun j=>((cs d[i]!).getD j default).den).toArray=_
 have:((List.range k).map fun j=>((cs d[i]!).getD j default).den)=encA cs d i:=by
  refine List.ext_getElem (by simp [encA,hk]) fun j h1 h2=>?_;have hj:j<(cs d[i]!).length:=by rw[hk];simpa using h1
  simp [encA,List.getD_eq_getElem?_getD,List.getElem?_eq_getElem hj]
 rw[this]
theorem ext_self {β:Type} (a:Array β) {N:Nat} (h:a.size=N):a.extract 0 N=a:=by subst h;simp
theorem perm_back {N:Nat} {d:Array α} (hd:d.size=N) {d':Array Nat} (h:PermIn 0 N (Array.range N) d'):PermIn 0 N d (d'.map fun i=>d[i]!):=by
 obtain⟨h1,h2,h3⟩:=h;have hs:d'.size=N:=by rw[h1];simp
 rw[ext_self d' hs,ext_self (Array.range N) (by simp)] at h3;refine⟨by simp [hs,hd],fun i hi=>?_,?_⟩
 ·have hi2:N≤i:=by omega
  rw[getElem!_neg _ _ (by simp [hs];omega),getElem!_neg _ _ (by omega)]
 ·rw[ext_self _ (by simp [hs]),ext_self d hd]
  have e:d.toList=(Array.range N).toList.map fun i=>d[i]! := by
   refine List.ext_getElem (by simp [hd]) fun i h4 h5=>?_;have h6:i<d.size:=by simpa using h4
   simp [getElem!_pos,h6]
  rw[e,Array.toList_map];exact h3.map _
theorem sorted_back {N:Nat} {d:Array α} {lt:α→α→Bool} {d':Array Nat} (hs:d'.size=N) (h:SortedIn (fun i j=>lt d[i]! d[j]!) 0 N d'):SortedIn lt 0 N (d'.map fun i=>d[i]!):=fun i j h1 h2 h3=>by
 have e:∀ q,q<N→(d'.map fun i=>d[i]!)[q]! = d[d'[q]!]! := fun q hq=>by
  have hq2:q<d'.size:=by omega
  rw[getElem!_pos _ _ (by simpa using hq2),getElem!_pos d' q hq2,Array.getElem_map]
 rw[e i (by omega),e j h3];exact h i j h1 h2 h3
theorem encA_get (cs:α→List SV) (k:Nat) (hk:∀ x,(cs x).length=k) (d:Array α) (i j:Nat) (hj:j<k):(encA cs d i)[j]! = (rdA cs d i j).den:=by
 have h:j<(cs d[i]!).length:=by rw[hk];exact hj
 unfold encA rdA;rw[getElem!_pos _ _ (by simpa using h),List.getElem_map,List.getD_eq_getElem?_getD,List.getElem?_eq_getElem h];rfl
theorem rowk_at {cur:Array Value} {N k:Nat} {rd:Nat→Nat→SV} (h:cur.toList.take (N * k)=cellsOf N k rd) {t:Nat} (ht:t<N * k):cur[t]? = some (rd (t / k) (t % k)).den:=by
 have h1:(cur.toList.take (N * k))[t]? = (cellsOf N k rd)[t]? := by rw[h]
 rw[List.getElem?_take_of_lt ht] at h1;rw[← Array.getElem?_toList,h1];simp [cellsOf,ht]
set_option maxHeartbeats 1000000 in
theorem sortK {P:Program} {ρ:Ren} (L:SlLaysF0.n6 P ρ) (k:Nat) (hk0:0<k) (aE:∀ w,(isAgg (ρ.t 24)).run P w=.ok true w) (zE:∀ w,(Go.sizeOf (ρ.t 24)).run P w=.ok k w)
  (cs:α→List SV) (hk:∀ x,(cs x).length=k) (h1:∀ x,∀ s∈cs x,s.den.oneCell'=true) (hdef:∀ R w,∀ s∈cs default,s.ok R w) (F:Frm) (ty:TypeId)
  (ent:∀ vs w,(callFunc (ρ.f 6) vs).run P w=.ok (.enter (ρ.f 6) vs) w)
  {g:FuncId} {rdc:Nat→SV} {lt:α→α→Bool} (hw:SWO lt) (hc:∀ x y,∃ c:Int,lt x y=decide (c<0)∧∀ F,Contract F P g [.agg k fun j=>(cs x).getD j default,.agg k fun j=>(cs y).getD j default] (fun r=>r=.i .i64 c))
  (ad:Option Addr) (cap N:Nat) (hN:N≤1000000000000) (d:Array α) (hd:d.size=N) :
  ContractM F P (ρ.f 6) [.os 0 ad N cap,.fn g 0 rdc] (.row ad ty N cap k (rdA cs d))
   (fun r o1=>r=Xh []∧∃ d',d'.size=N∧(PermIn 0 N d d'∧SortedIn lt 0 N d')∧o1=.row ad ty N cap k (rdA cs d')):=by
 refine⟨ent,fun R w ob hinv hL hob ho hargs hR=>?_⟩;have hargs':([SV.os 0 ad N cap,.fn g 0 rdc].map SV.den).toArray=#[.slice ad N cap,.func (.func g) #[] #[]]:=rfl;rw[hargs'];rcases Nat.eq_zero_or_pos N with h0|h0
 ·subst h0;refine (AnyF.slices_SortFunc_none { L with } ad cap _ w).mono ?_;rintro e w' ⟨rfl,rfl⟩;exact⟨Xh [],_,R,rfl,⟨rfl,d,hd,⟨⟨rfl,fun _ _=>rfl,List.Perm.refl _⟩,fun i j _ _ h=>by omega⟩,rfl⟩,fun _ h=>h,fun _ h=>.inl h,(fun j hj=>by cases hj),fun _ h=>h,ho,Evo.refl _ _,hinv⟩
 obtain⟨hown,hRr,hcell⟩:=ho;rcases hown.2 with ⟨_,h9⟩|⟨blk,cap',cur,hv,hbo,hheap,hnc,hcm,hcs,htake⟩
 ·omega
 injection hv with ha _ hcc
 subst ha hcc;have hblt:blk<w.heap.size:=(Array.getElem?_eq_some_iff.1 hheap).1;have hnR:¬ R blk:=hRr _ rfl
 obtain⟨cf,hcf⟩:∃ cf:Nat→Nat→Int,∀ i j,lt d[i]! d[j]! = decide (cf i j<0)∧∀ F,Contract F P g [.agg k fun q=>(cs d[i]!).getD q default,.agg k fun q=>(cs d[j]!).getD q default] (fun r=>r=.i .i64 (cf i j)):=
  ⟨fun i j=>Classical.choose (hc d[i]! d[j]!),fun i j=>Classical.choose_spec (hc d[i]! d[j]!)⟩
 have hlt:ltOf cf=fun i j=>lt d[i]! d[j]! := by funext i j;exact (hcf i j).1.symm
 have hO:SWO (ltOf cf):=by
  rw[hlt];exact⟨fun x=>hw.irrefl _,fun x y z=>hw.trans _ _ _,fun x y z=>hw.ntrans _ _ _⟩
 have hon:∀ i,∀ j,j<k→((cs d[i]!).getD j default).ok R w:=fun i j hj=>by
  by_cases hi:i<N
  ·exact (hcell i j hi hj).2
  ·rw[getElem!_neg _ _ (by omega)];rw[List.getD_eq_getElem?_getD,List.getElem?_eq_getElem (by rw[hk];exact hj)];exact hdef R w _ (List.getElem_mem _)
 have hH:HoldsK (encA cs d) k w blk 0 (Array.range N):=by
  intro t ht;have ht2:t<N * k:=by simpa using ht
  have hq:t / k<N:=(Nat.div_lt_iff_lt_mul hk0).2 ht2;have hr:t % k<k:=Nat.mod_lt _ hk0
  have hv:(flatK (encA cs d) k (Array.range N))[t]! = (rdA cs d (t / k) (t % k)).den:=by
   rw[get_flatK _ _ _ _ (by simpa using ht2),getElem!_pos (Array.range N) _ (by simpa using hq),Array.getElem_range];exact encA_get cs k hk d _ _ (by simpa using hr)
  constructor
  ·unfold World.cell?;simp only[hheap,Nat.zero_add,Option.isSome_none,Bool.false_eq_true,if_false];rw[hv];exact rowk_at htake ht2
  ·unfold World.frozen?;simp [hheap]
 have hW:∀ (m:Nat) (os:Array Obj) (dk:Array Nat) (b:Nat),b<w.heap.size→b≠blk→(sortWorldK (encA cs d) k w blk 0 m dk os).heap[b]? = w.heap[b]? := fun m os dk b hb hne=>by
  show ((w.heap.modify blk (onCells (putCells id 0 (flatK (encA cs d) k dk)))) ++ os)[b]? = _;rw[Array.getElem?_append_left (by simpa using hb),Array.getElem?_modify,if_neg (Ne.symm hne)]
 have hWs:∀ (m:Nat) (os:Array Obj) (dk:Array Nat),w.heap.size≤(sortWorldK (encA cs d) k w blk 0 m dk os).heap.size:=fun m os dk=>by
  show _≤((w.heap.modify blk (onCells (putCells id 0 (flatK (encA cs d) k dk)))) ++ os).size;simp
 have hRW:∀ (m:Nat) (os:Array Obj) (dk:Array Nat) (b:Nat),R b→(sortWorldK (encA cs d) k w blk 0 m dk os).heap[b]? = w.heap[b]? := fun m os dk b hb=>hW m os dk b (hR b hb).1 (fun e=>hnR (e ▸ hb))
 have hcmp:CmpLays P g #[] (encA cs d) k cf blk 0 (Array.range N).size w:=by
  intro m os dk hdk x y;have hC:=((hcf x y).2 Frm.nil).calls R (sortWorldK (encA cs d) k w blk 0 m dk os) trivial ?_ ?_
  ·rw[List.map_cons,List.map_cons,List.map_nil,encA_arr cs k hk,encA_arr cs k hk] at hC;refine Calls.mono (R:=_) hC ?_;rintro e w' ⟨r,rfl,rfl,_,hev,_⟩;exact⟨rfl,evo_grow hev⟩
  ·intro s hs;rcases List.mem_cons.1 hs with rfl|hs
   ·exact fun j hj=>QD (fun _ h=>h) (hRW m os dk) _ (hon x j hj)
   ·rw[List.mem_singleton.1 hs];exact fun j hj=>QD (fun _ h=>h) (hRW m os dk) _ (hon y j hj)
  ·exact fun b hb=>⟨Nat.lt_of_lt_of_le (hR b hb).1 (hWs m os dk),fun h=>h⟩
 have key:=AnyQ.slices_SortFunc L k aE zE (encA cs d) (fun i=>by simp [encA,hk]) (fun i v hv=>by
   obtain⟨s,hs,rfl⟩:=List.mem_map.1 hv
   exact h1 _ s hs) cf hO g #[] blk 0 cap (Array.range N) w (fun args w=>((hcf 0 0).2 Frm.nil).enters args w) hcmp hH hblt (by simp;omega)
 rw[show (Array.range N).size=N by simp] at key;refine key.mono ?_;rintro e w' ⟨rfl,d',n,os,hp,hs,rfl⟩;have hds:d'.size=N:=by rw[hp.1];simp
 rw[hlt] at hs
 have hnew:(sortWorldK (encA cs d) k w blk 0 n d' os).heap[blk]? = some (.cells (putCells id 0 (flatK (encA cs d) k d') cur) ty (0,0)):=by
  show ((w.heap.modify blk (onCells (putCells id 0 (flatK (encA cs d) k d')))) ++ os)[blk]? = _;rw[Array.getElem?_append_left (by simpa using hblt),Array.getElem?_modify,if_pos rfl,hheap];rfl
 refine⟨Xh [],.row (some ⟨blk,0,none⟩) ty N cap k (rdA cs (d'.map fun i=>d[i]!)),R,rfl,⟨rfl,_,by simp [hds],⟨perm_back hd hp,sorted_back hds hs⟩,rfl⟩,fun _ h=>h,fun _ h=>.inl h,(fun j hj=>by cases hj),fun _ h=>h,?_,?_,?_⟩
 ·refine⟨⟨by simp [cellsOf],.inr ⟨blk,cap,_,rfl,hbo,hnew,hnc,hcm,by simp [putCells,hcs],?_⟩⟩,hRr,fun i j hi hj=>?_⟩
  ·refine List.ext_getElem ?_ fun t h4 h5=>?_
   ·have:N * k≤cap * k:=Nat.mul_le_mul_right k hnc
    rw[List.length_take,Array.length_toList];simp only[putCells,cellsOf,Array.size_mapIdx,List.length_map,List.length_range];omega
   ·have ht:t<N * k:=by simpa [cellsOf] using h5
    have hq:t / k<N:=(Nat.div_lt_iff_lt_mul hk0).2 ht;have hr:t % k<k:=Nat.mod_lt _ hk0
    have e1:(d'.map fun i=>d[i]!)[t / k]! = d[d'[t / k]!]! := by
     have hq2:t / k<d'.size:=by omega
     rw[getElem!_pos _ _ (by simpa using hq2),getElem!_pos d' _ hq2,Array.getElem_map]
    have e2:(flatK (encA cs d) k d')[t]! = (rdA cs (d'.map fun i=>d[i]!) (t / k) (t % k)).den:=by
     rw[get_flatK _ _ _ _ (by rw[hds];exact ht),encA_get cs k hk d _ _ hr];unfold rdA;rw[e1]
    have hsz:(flatK (encA cs d) k d').size=N * k:=by rw[size_flatK,hds]
    simp only[List.getElem_take,Array.getElem_toList,putCells,Array.getElem_mapIdx,cellsOf,List.getElem_map,List.getElem_range];rw[if_pos ⟨Nat.zero_le _,by omega⟩,Nat.sub_zero];exact e2
  ·have hi2:i<d'.size:=by omega
   have e1:(d'.map fun i=>d[i]!)[i]! = d[d'[i]!]! := by
    rw[getElem!_pos _ _ (by simpa using hi2),getElem!_pos d' _ hi2,Array.getElem_map]
   unfold rdA;rw[e1];refine⟨?_,QD (fun _ h=>h) (hRW n os d') _ (hon _ j hj)⟩;rw[List.getD_eq_getElem?_getD,List.getElem?_eq_getElem (by rw[hk];exact hj)];exact h1 _ _ (List.getElem_mem _)
 ·exact⟨rfl,rfl,rfl,hWs n os d',fun b hb hm=>hW n os d' b hb (fun e=>hm (.inr (by rw[e];rfl))),Nat.le_add_right _ _⟩
 ·exact F.stab w _ ob hinv hL (fun b hb=>hW n os d' b (by omega) (by omega))
end Eng
end

section
namespace Eng
def wideR (rd:Option Nat):Fence:={ Fence.wide with round:=rd }
theorem put_with (a:Act) (ds:List Deferred) (d:Option Tmp) (v:Value):({ a with defers:=ds }:Act).put d v={ a.put d v with defers:=ds }:=by cases d<;>rfl
theorem eval_with (a:Act) (ds:List Deferred):({ a with defers:=ds }:Act).eval=a.eval:=by funext x;cases x<;>rfl
section
variable {P:Program} {F:Frm} {st:St} {k:St→Prop} {dst:Option Tmp} {R0 R:Nat→Prop} {w0:Org} {w:World} {ob:Nat} {a:Act}
theorem op_in {o:Oper} {ds:List Deferred} {rd:Option Nat} {n:Nat} {N:Act→World→Prop} {Q:Exit→Act→World→Prop} {next:Act→World→Prop}
  (h:o.wp P a w (fun a' w'=>a'.defers=a.defers∧N a' w') (fun _ _ _=>False)) (hN:∀ a' w',N a' w'→next { a' with defers:=ds } w') :
  o.wpIn (wideR rd) n P { a with defers:=ds } w next Q:=by
 refine⟨fun _ _=>trivial,?_⟩
 have hnd:∀ c,o.op≠.defer c:=by
  intro c hc;unfold Oper.wp execOp at h;rw[hc] at h;simp only[Sem.run_bind] at h;cases hres:(resolve a.eval c o.type).run P w with
  | ok d w'=>simp [hres,Result.andThen,Oper.upon,put_defers] at h
  | halt c' w' => 
   simp only[hres,Result.andThen] at h;cases c'<;>exact h.elim
 rw[Oper.semAt_eq _ _ _ hnd,eval_with];unfold Oper.wp at h;cases hr:(execOp a.eval o).run P w with
 | ok nx w'=>
  rw[hr] at h;cases nx with
  | value v=>rw[Oper.uponIn_value,put_with];exact hN _ _ h.2
  | skip=>rw[Oper.uponIn_skip,put_with];exact hN _ _ h.2
  | defer d=>
   have h1:=h.1;rw[put_defers] at h1;simp at h1
  | enter f args=>
   rw[Oper.uponIn_enter];refine⟨fun hh=>(by cases hh),?_⟩;have hc:CallsIn Fence.wide (n - 1) P f args w' _:=callsIn_wide.2 h;have hc':CallsIn (wideR rd) (n - 1) P f args w' _:=hc;refine hc'.mono ?_;rintro e w2 he;cases e with
   | returned v => 
    show next (({ a with defers:=ds }:Act).put o.dst v) w2
    rw[put_with];exact hN _ _ he.2
   | panicked chain=>exact he.elim
   | outgrown=>obtain⟨_,_,hx⟩:=he;exact hx.elim
  | row r args=>
   rw[Oper.uponIn_row];refine⟨fun hh=>(by cases hh),fun c cs _=>?_⟩;obtain⟨v,w2,hq,hs⟩:=h c cs;refine⟨v,w2,?_,stepsIn_wide.2 hs⟩;show next (({ a with defers:=ds }:Act).put o.dst v) w2
   rw[put_with];exact hN _ _ hq.2
  | _=>exact h.elim
 | halt c w'=>
  rw[hr] at h;cases c<;>exact h.elim
theorem good_in {op:Op} (hg:Good P F op dst st k) {o:Oper} (ho:o.op=op) (hd:o.dst=dst) (hr:Rel F R0 w0 st a w) {ds:List Deferred} {rd:Option Nat} {n:Nat} {Q:Exit→Act→World→Prop} {next:Act→World→Prop}
  (hk:∀ st' a' w',k st'→Rel F R0 w0 st' a' w'→next { a' with defers:=ds } w'):o.wpIn (wideR rd) n P { a with defers:=ds } w next Q:=
 op_in (hg R0 w0 a w o (fun a' w'=>a'.defers=a.defers∧∃ st',k st'∧Rel F R0 w0 st' a' w') (fun _ _ _=>False) ho hd hr fun st' a' w' h1 h2=>⟨(by
  obtain⟨_,_,h3⟩:=h2;obtain⟨_,_,h4⟩:=hr
  rw[h3.defers,h4.defers]),st',h1,h2⟩) fun a' w' ⟨st',h1,h2⟩=>hk st' a' w' h1 h2
theorem stepO_in {o:Oper} (hd:Zr st o.dst) (h:stepO P F st o.dst o.op k) (hr:Rel F R0 w0 st a w) {ds:List Deferred} {rd:Option Nat} {n:Nat} {Q:Exit→Act→World→Prop} {next:Act→World→Prop}
  (hk:∀ st' a' w',k st'→Rel F R0 w0 st' a' w'→next { a' with defers:=ds } w'):o.wpIn (wideR rd) n P { a with defers:=ds } w next Q:=
 good_in (stepO_good hd h) rfl rfl hr hk
theorem wo_soundI {ops:Array Oper} {Q:Exit→Act→World→Prop} {rd:Option Nat} {n:Nat} {dfs:List Deferred}:∀ (l:List Oper) (st:St) (a:Act) (w:World),WO P F (ops.toList.map (·.dst)) l st k→Rel F R0 w0 st a w →
  (∀ st' a' w',k st'→Rel F R0 w0 st' a' w'→Q .normal { a' with defers:=dfs } w')→wpListIn (wideR rd) n P ops Q l { a with defers:=dfs } w
 | [],st,a,w,h,hr,hk=>hk _ _ _ h hr
 | o :: rest,st,a,w,h,hr,hk=>by
  have run:∀ {st:St},Rel F R0 w0 st a w→Zr st o.dst→(stepO P F st o.dst o.op fun st'=>WO P F (ops.toList.map (·.dst)) rest st' k)→o.wpIn (wideR rd) n P { a with defers:=dfs } w (wpListIn (wideR rd) n P ops Q rest) Q:=fun hr hd hs=>
   stepO_in hd hs hr fun st' a' w' h' hr'=>wo_soundI rest st' a' w' h' hr' hk
  unfold WO at h;unfold wpListIn;split at h
  ·rename_i hg;rw[if_pos (by simp [Region.wanted,hg])];exact (run hr h.1 h.2)
  ·rename_i j want hg;split at h
   ·exact h.elim
   ·rename_i t hj;obtain⟨ob,R,hrr⟩:=hr;split at h
    ·rename_i hl;have hy:=Ze (tmps:=a.tmps) hj (hrr.env t _ hl).1;split at h
     ·rename_i hw;subst hw;rw[if_pos (by simp [Region.wanted,hg,hy])];exact (run ⟨ob,R,hrr⟩ h.1 h.2)
     ·rename_i hw;have hwf:want=false:=by simpa using hw
      subst hwf;rw[if_neg (by simp [Region.wanted,hg,hy])];refine⟨fun _ _=>trivial,?_⟩;rw[put_with];exact wo_soundI rest _ (a.put o.dst undef) _ h.2 ⟨ob,R,hrr.put (s:=.v undef) (Qy h.1) trivial⟩ hk
    ·rename_i hl;have hy:=Ze (tmps:=a.tmps) hj (hrr.env t _ hl).1;split at h
     ·rename_i hw;subst hw;rw[if_pos (by simp [Region.wanted,hg,hy])];exact (run ⟨ob,R,hrr⟩ h.1 h.2)
     ·rename_i hw;have hwf:want=true:=by simpa using hw
      subst hwf;rw[if_neg (by simp [Region.wanted,hg,hy])];refine⟨fun _ _=>trivial,?_⟩;rw[put_with];exact wo_soundI rest _ (a.put o.dst undef) _ h.2 ⟨ob,R,hrr.put (s:=.v undef) (Qy h.1) trivial⟩ hk
    ·rename_i vs hl;have hy:yielded ops a.tmps j=none:=yielded_none hj (hrr.env t _ hl).1;rw[if_neg (by simp [Region.wanted,hg,hy])];refine⟨fun _ _=>trivial,?_⟩;rw[put_with];exact wo_soundI rest _ (a.put o.dst undef) _ h.2 ⟨ob,R,hrr.put (s:=.v undef) (Qy h.1) trivial⟩ hk
    ·rename_i x hl;obtain⟨_,ht,hf⟩:=h;have hy:=Ze (tmps:=a.tmps) hj (hrr.env t _ hl).1;cases x with
     | true=>
      have h:=ht rfl;have hr':=hrr.know (s':=.tt) hl rfl (fun _=>trivial);split at h
      ·rename_i hw;subst hw;rw[if_pos (by simp [Region.wanted,hg,hy])];exact (run ⟨ob,R,hr'⟩ h.1 h.2)
      ·rename_i hw;have hwf:want=false:=by simpa using hw
       subst hwf;rw[if_neg (by simp [Region.wanted,hg,hy])];refine⟨fun _ _=>trivial,?_⟩;rw[put_with];exact wo_soundI rest _ (a.put o.dst undef) _ h.2 ⟨ob,R,hr'.put (s:=.v undef) (Qy h.1) trivial⟩ hk
     | false=>
      have h:=hf rfl;have hr':=hrr.know (s':=.ff) hl rfl (fun _=>trivial);split at h
      ·rename_i hw;subst hw;rw[if_pos (by simp [Region.wanted,hg,hy])];exact (run ⟨ob,R,hr'⟩ h.1 h.2)
      ·rename_i hw;have hwf:want=true:=by simpa using hw
       subst hwf;rw[if_neg (by simp [Region.wanted,hg,hy])];refine⟨fun _ _=>trivial,?_⟩;rw[put_with];exact wo_soundI rest _ (a.put o.dst undef) _ h.2 ⟨ob,R,hr'.put (s:=.v undef) (Qy h.1) trivial⟩ hk
    ·exact h.elim
/-! ### A call of yield -/
def YieldK (P:Program) (F:Frm) (l:Nat) (args:List SV) (st:St) (dst:Option Tmp) (k:St→Prop):Prop:=
 ∀ (R0:Nat→Prop) (w0:Org) (ob:Nat) (R:Nat→Prop) (a:Act) (w:World),RelR F R0 w0 ob R st a w→(∀ s∈args,s.ok R w) →
  ∃ fn tmps assign body,(Instr.yield l (args.map SV.den).toArray).run P w=.ok (.round l fn tmps assign body) w∧∀ n,RoundIn Fence.wide n P l fn tmps assign body w fun e w'=>
   ∃ (r:SV) (st':St) (R':Nat→Prop),e=.returned r.den∧k (st'.put dst r)∧r.ok R' w'∧(∃ ob',RelR F R0 w0 ob' R' st' a w')∧st'.n=st.n
def yfun:SV→Option Nat
 | .v (.func (.yield l) ts vs)=>if ts.size=0∧vs.size=0 then some l else none
 | _=>none
theorem yfun_eq {s:SV} {l:Nat} (h:yfun s=some l):s=.v (.func (.yield l) #[] #[]):=by
 unfold yfun at h;split at h
 ·rename_i l' ts vs;split at h
  ·rename_i hc;cases h
   rw[Array.eq_empty_of_size_eq_zero hc.1,Array.eq_empty_of_size_eq_zero hc.2]
  ·cases h
 ·cases h
def asYield (st:St):Op→Option (Nat×List SV)
 | .call { callee:=.value (.tmp t),args:=args,argTypes:=_ }=>(match (look st.env t).bind yfun,evs st.env args.toList with
  | some l,some L=>some (l,L)
  | _,_=>none)
 | _=>none
def stepY (P:Program) (F:Frm) (st:St) (dst:Option Tmp) (op:Op) (k:St→Prop):Prop:=
 match asYield st op with
 | some (l,L)=>YieldK P F l L st dst k
 | none=>stepO P F st dst op k
theorem stepY_in {o:Oper} (hd:Zr st o.dst) (h:stepY P F st o.dst o.op k) (hr:Rel F R0 w0 st a w) {ds:List Deferred} {rd:Option Nat} {n:Nat} {Q:Exit→Act→World→Prop} {next:Act→World→Prop}
  (hk:∀ st' a' w',k st'→Rel F R0 w0 st' a' w'→next { a' with defers:=ds } w'):o.wpIn (wideR rd) n P { a with defers:=ds } w next Q:=by
 unfold stepY at h;split at h
 ·rename_i l L hy;unfold asYield at hy;split at hy
  ·rename_i t args ts hop;split at hy
   ·rename_i l' L' h1 h2;cases hy
    obtain⟨s,hs,hl⟩:=Option.bind_eq_some_iff.1 h1;have hsv:=yfun_eq hl;subst hsv;obtain⟨ob,R,hrr⟩:=hr;obtain⟨g1,g2⟩:=evs_ok hrr.env _ _ h2;obtain⟨fn,tmps,assign,body,hrun,hround⟩:=h R0 w0 ob R a w hrr g2;have hargs:args.map a.eval=(L.map SV.den).toArray:=by apply Array.ext';rw[Array.toList_map];exact g1
    have hev:a.eval (.tmp t)=.func (.yield l) #[] #[]:=by simp [Act.eval,(hrr.env t _ hs).1,SV.den]
    refine⟨fun _ _=>trivial,?_⟩;rw[Oper.semAt_eq _ _ _ (fun c hc=>by rw[hop] at hc;cases hc),eval_with]
    have hx:(execOp a.eval o).run P w=.ok (.round l fn tmps assign body) w:=by
     unfold execOp;rw[hop];simp only[resolve,hev,Deferred.ofValue,Sem.run_bind,Sem.run_pure,Result.andThen_ok,invoke,hargs]
     simpa using hrun
    rw[hx,Oper.uponIn_round];refine⟨fun hh=>(by cases hh),?_⟩;have hc:RoundIn (wideR rd) (n - 1) P l fn tmps assign body w _:=hround (n - 1);refine hc.mono ?_;rintro e w' ⟨r,st',R',rfl,hk',hrok,⟨ob',hrel⟩,hn⟩;show next (({ a with defers:=ds }:Act).put o.dst r.den) w'
    rw[put_with];exact hk _ _ _ hk' ⟨ob',R',hrel.put (fun t ht=>by rw[hn];exact Qy hd t ht) hrok⟩
   ·cases hy
  ·cases hy
 ·exact stepO_in hd h hr hk
/-! ### Code in a round's frame,or behind a range over a function -/
def SatJ (P:Program) (F:Frm) (rd:Option Nat) (c:Code) (ds:List Deferred) (st:St) (K:Exit→List Deferred→St→Prop):Prop:=
 ∀ (R0:Nat→Prop) (w0:Org) (a:Act) (w:World),Rel F R0 w0 st a w→∀ n,c.wpIn (wideR rd) n P (fun e a' w'=>∃ st' ds' a1,K e ds' st'∧Rel F R0 w0 st' a1 w'∧a'={ a1 with defers:=ds' }) { a with defers:=ds } w
def thenJ (next:List Deferred→St→Prop) (K:Exit→List Deferred→St→Prop):Exit→List Deferred→St→Prop
 | .normal,ds,st=>next ds st
 | e,ds,st=>K e ds st
def blockJ (id:Nat) (K:Exit→List Deferred→St→Prop):Exit→List Deferred→St→Prop
 | .exit id',ds,st=>if id'=id then K .normal ds st else K (.exit id') ds st
 | e,ds,st=>K e ds st
theorem Rel.defers (h:Rel F R0 w0 st a w):a.defers=[]:=by obtain⟨_,_,h⟩:=h;exact h.defers
variable {rd:Option Nat} {ds:List Deferred} {K:Exit→List Deferred→St→Prop}
theorem SatJ.mono {c:Code} {K':Exit→List Deferred→St→Prop} (h:SatJ P F rd c ds st K) (hk:∀ e ds st,K e ds st→K' e ds st):SatJ P F rd c ds st K':=
 fun R0 w0 a w hr n=>Go.wpIn_mono (h R0 w0 a w hr n) fun e a' w' ⟨st',ds',a1,h1,h2⟩=>⟨st',ds',a1,hk e ds' st' h1,h2⟩
theorem SatJ.skip (h:K .normal ds st):SatJ P F rd .skip ds st K:=fun R0 w0 a w hr n=>wpIn_skip ⟨st,ds,a,h,hr,rfl⟩
theorem SatJ.label {l:Nat} (h:K .normal ds st):SatJ P F rd (.label l) ds st K:=fun R0 w0 a w hr n=>wpIn_label ⟨st,ds,a,h,hr,rfl⟩
theorem SatJ.exit {id:Nat} (h:K (.exit id) ds st):SatJ P F rd (.exit id) ds st K:=fun R0 w0 a w hr n=>wpIn_exit ⟨st,ds,a,h,hr,rfl⟩
theorem SatJ.ret (h:K .ret ds st):SatJ P F rd .ret ds st K:=fun R0 w0 a w hr n=>wpIn_ret ⟨st,ds,a,h,hr,rfl⟩
theorem SatJ.seq {x y:Code} (h:SatJ P F rd x ds st (thenJ (fun ds' st'=>SatJ P F rd y ds' st' K) K)):SatJ P F rd (.seq x y) ds st K:=by
 intro R0 w0 a w hr n;refine wpIn_seq (Go.wpIn_mono (h R0 w0 a w hr n) ?_);rintro e a' w' ⟨st',ds',a1,hk,hr',rfl⟩;cases e with
 | normal=>exact hk R0 w0 a1 w' hr' n
 | _=>exact⟨st',ds',a1,hk,hr',rfl⟩
theorem SatJ.block {id:Nat} {c:Code} (h:SatJ P F rd c ds st (blockJ id K)):SatJ P F rd (.block id c) ds st K:=by
 intro R0 w0 a w hr n;refine wpIn_block (Go.wpIn_mono (h R0 w0 a w hr n) ?_);rintro e a' w' ⟨st',ds',a1,hk,hr',rfl⟩;cases e with
 | exit id'=>
  simp only[blockJ] at hk;simp only[Exit.inBlock];split at hk
  ·rename_i e;rw[if_pos e];exact⟨st',ds',a1,hk,hr',rfl⟩
  ·rename_i e;rw[if_neg e];exact⟨st',ds',a1,hk,hr',rfl⟩
 | _=>exact⟨st',ds',a1,hk,hr',rfl⟩
theorem SatJ.cond_tt {c:Operand} {x y:Code} (hc:ev st.env c=some .tt) (h:SatJ P F rd x ds st K):SatJ P F rd (.cond c x y) ds st K:=by
 rintro R0 w0 a w ⟨ob,R,hr⟩ n;exact wpIn_cond_true (by rw[eval_with];exact (QC hr.env hc).1) (h R0 w0 a w ⟨ob,R,hr⟩ n)
theorem SatJ.cond_ff {c:Operand} {x y:Code} (hc:ev st.env c=some .ff) (h:SatJ P F rd y ds st K):SatJ P F rd (.cond c x y) ds st K:=by
 rintro R0 w0 a w ⟨ob,R,hr⟩ n;exact wpIn_cond_false (by rw[eval_with];exact (QC hr.env hc).1) (h R0 w0 a w ⟨ob,R,hr⟩ n)
theorem SatJ.cond_b {c:Operand} {x y:Code} {b:Bool} (hc:ev st.env c=some (.b b)) (ht:b=true→SatJ P F rd x ds st K) (hf:b=false→SatJ P F rd y ds st K):SatJ P F rd (.cond c x y) ds st K:=by
 rintro R0 w0 a w ⟨ob,R,hr⟩ n;have:=(QC hr.env hc).1;rw[← eval_with a ds] at this;exact wpIn_cond_split this (fun h=>ht h R0 w0 a w ⟨ob,R,hr⟩ n) (fun h=>hf h R0 w0 a w ⟨ob,R,hr⟩ n)
theorem SatJ.le {c:Code} {st':St} (h:SatJ P F rd c ds st' K) (hl:Le st st'):SatJ P F rd c ds st K:=fun R0 w0 a w hr n=>h R0 w0 a w (hr.le hl) n
theorem SatJ.region {id:Nat} {l:List Oper} (h:WO P F (l.map (·.dst)) l st (K .normal ds)):SatJ P F rd (.region id l.toArray false) ds st K:=by
 intro R0 w0 a w hr n;refine wpIn_region_lit ?_;exact wo_soundI (ops:=l.toArray) (k:=K .normal ds) l st a w (by simpa using h) hr fun st' a' w' hk hr'=>⟨st',ds,a',hk,hr',rfl⟩
theorem SatJ.loop {c:Code} {ι:Type} (sh:ι→St) (I:ι→Prop) (μ:ι→Nat) (x0:ι) (h0:I x0) (hl:Le st (sh x0))
  (h:∀ x,I x→SatJ P F rd c ds (sh x) (thenJ (fun ds' st'=>ds'=ds∧∃ y,I y∧μ y<μ x∧Le st' (sh y)) K)):SatJ P F rd (.loop c) ds st K:=by
 intro R0 w0 a w hr n;refine wpIn_loop_ghost (fun m a' w'=>∃ y a1,I y∧μ y=m∧Rel F R0 w0 (sh y) a1 w'∧a'={ a1 with defers:=ds }) (μ x0) ⟨x0,a,h0,rfl,hr.le hl,rfl⟩ ?_;rintro m a' w' ⟨y,a1,hy,rfl,hry,rfl⟩;refine Go.wpIn_mono (h y hy R0 w0 a1 w' hry n) ?_;rintro e a2 w2 ⟨st',ds',a3,hk,hr2,rfl⟩;cases e with
 | normal=>
  obtain⟨rfl,z,hz,hlt,hle⟩:=hk;exact⟨μ z,hlt,z,a3,hz,rfl,hr2.le hle,rfl⟩
 | _=>exact⟨st',ds',a3,hk,hr2,rfl⟩
/-! ### A loop's record,as an object of the call's own -/
theorem RelR.back {a':Act} {w':World} {st':St} (h:RelR F R0 w0 ob R st a w) (h':Rel F R ⟨w,fun b=>∃ (i:Nat) (o:Own),st.own[i]? = some o∧o.blk=some b⟩ st' a' w') :
  ∃ ob' R',RelR F R0 w0 ob' R' { st with own:=st'.own } a w':=by
 obtain⟨ob1,R1,h1⟩:=h'
 have hkeep:∀ b,R b→w'.heap[b]? = w.heap[b]? := fun b hb=>h1.evo.block b (h.rr b hb).1 (by
  rintro (hm|⟨i,o,ho,hob⟩)
  ·exact (h.rr b hb).2.1 hm
  ·exact (Qw (h.own i o ho) hob).2.2 hb)
 obtain⟨ob',R',hu⟩:=h.unbase ⟨ob1,R1,h1⟩
 have hu0:RelR F R0 w0 ob1 R1 st' a' w':=by
  obtain⟨ob2,R2,hu2⟩:=h.unbase ⟨ob1,R1,h1⟩;have hG:∀ b,(∃ (i:Nat) (o:Own),st.own[i]? = some o∧o.blk=some b)→w0.w.heap.size≤b∨w0.G b:=fun b ⟨i,o,ho,hb⟩=>h.gb i o ho b hb;have hs:=h.evo.size;refine⟨h1.defers,h1.env,h1.size,h1.own,h1.dist,hu2.evo,h1.inv,h1.obM,fun i o ho b hb=>?_,h1.obw,fun b hb=>?_,fun b hb=>h1.r0 b (h.r0 b hb)⟩
  ·rcases h1.gb i o ho b hb with h9|h9
   ·have h9':w.heap.size≤b:=h9;exact .inl (by omega)
   ·exact hG b h9
  ·obtain⟨g1,g2,g3⟩:=h1.rr b hb;refine⟨g1,g2,?_⟩;rcases g3 with g3|g3|g3
   ·exact (h.rr b g3).2.2
   ·have g3':w.heap.size≤b:=g3;exact .inr (.inl (by omega))
   ·rcases hG b g3 with h9|h9
    ·exact .inr (.inl h9)
    ·exact .inr (.inr h9)
 exact⟨ob1,R1,h.defers,fun t s ht=>⟨(h.env t s ht).1,QD (fun b hb=>h1.r0 b hb) hkeep s (h.env t s ht).2⟩,h.size,hu0.own,hu0.dist,hu0.evo,hu0.inv,hu0.obM,hu0.gb,hu0.obw,hu0.rr,hu0.r0⟩
/-! ### A region with a call of yield,in pieces -/
def WL (P:Program) (F:Frm) (rd:Option Nat) (dfs:List Deferred) (ops:Array Oper) (l:List Oper) (st:St) (k:St→Prop):Prop:=
 ∀ (R0:Nat→Prop) (w0:Org) (a:Act) (w:World) (n:Nat) (Q:Exit→Act→World→Prop),Rel F R0 w0 st a w→(∀ st' a' w',k st'→Rel F R0 w0 st' a' w'→Q .normal { a' with defers:=dfs } w') →
  wpListIn (wideR rd) n P ops Q l { a with defers:=dfs } w
variable {dfs:List Deferred} {ops:Array Oper}
theorem WL.nil (h:k st):WL P F rd dfs ops [] st k:=fun R0 w0 a w n Q hr hk=>hk _ _ _ h hr
theorem WL.know {l:List Oper} {t:Tmp} {x:Bool} (hl:look st.env t=some (.b x)) (ht:x=true→WL P F rd dfs ops l (st.put (some t) .tt) k) (hf:x=false→WL P F rd dfs ops l (st.put (some t) .ff) k):WL P F rd dfs ops l st k:=by
 rintro R0 w0 a w n Q ⟨ob,R,hr⟩ hk;cases x with
 | true=>exact ht rfl R0 w0 a w n Q ⟨ob,R,hr.know hl rfl fun _=>trivial⟩ hk
 | false=>exact hf rfl R0 w0 a w n Q ⟨ob,R,hr.know hl rfl fun _=>trivial⟩ hk
theorem WL.yield {o:Oper} {rest:List Oper} {j t:Nat} (hg:o.guard=some (j,true)) (hj:((ops.toList.map (·.dst))[j]?).bind id=some t) (hl:look st.env t=some .tt) (hd:Zr st o.dst)
  (h:stepY P F st o.dst o.op fun st'=>WL P F rd dfs ops rest st' k):WL P F rd dfs ops (o :: rest) st k:=by
 rintro R0 w0 a w n Q ⟨ob,R,hr⟩ hk;have hy:=Ze (tmps:=a.tmps) hj (hr.env t _ hl).1;unfold wpListIn;rw[if_pos (by simp [Region.wanted,hg,hy])];exact stepY_in hd h ⟨ob,R,hr⟩ fun st' a' w' h' hr'=>h' R0 w0 a' w' n Q hr' hk
theorem SatJ.region_k {id:Nat} {l:List Oper} (h:∀ k:St→Prop,(∀ st',K .normal ds st'→k st')→WO P F (l.map (·.dst)) l st k):SatJ P F rd (.region id l.toArray false) ds st K:=
 SatJ.region (h _ fun _ h=>h)
end
end Eng
end

section
namespace Eng
theorem cellsOf_sim {len sz:Nat} {rd rd':Nat→Nat→SV} (h:∀ i j,i<len→j<sz→sim (rd i j) (rd' i j)):cellsOf len sz rd=cellsOf len sz rd':=by
 unfold cellsOf;apply List.map_congr_left;intro q hq;have hq':q<len * sz:=by simpa using hq
 have hz:0<sz:=by
  rcases Nat.eq_zero_or_pos sz with h0|h0
  ·subst h0;simp at hq'
  ·exact h0
 exact (h _ _ ((Nat.div_lt_iff_lt_mul hz).2 hq') (Nat.mod_lt _ hz)).1
theorem Sat.reread {P:Program} {F:Frm} {n:Nat} {env:List (Nat×SV)} {own:List Own} {c:Code} {K:Exit→St→Prop} (id:Nat) {ad:Option Addr} {e len cap sz:Nat} {rd:Nat→Nat→SV} (rd':Nat→Nat→SV)
  (hid:own[id]? = some (.row ad e len cap sz rd)) (hs:∀ i j,i<len→j<sz→sim (rd i j) (rd' i j)) (h:Sat P F c ⟨n,env,own.set id (.row ad e len cap sz rd')⟩ K):Sat P F c ⟨n,env,own⟩ K:=by
 rintro R0 w0 a w ⟨ob,R,hr⟩;refine h R0 w0 a w ⟨ob,R,?_⟩;have hidl:id<own.length:=(List.getElem?_eq_some_iff.1 hid).1;have hblk:(Own.row ad e len cap sz rd').blk=(Own.row ad e len cap sz rd).blk:=by cases ad<;>rfl
 have hrow:=hr.own _ _ hid
 have hok:(Own.row ad e len cap sz rd').ok R ob w:=⟨by rw[← cellsOf_sim hs];exact hrow.1,hrow.2.1,fun i j hi hj=>by
  have h1:=hrow.2.2 i j hi hj;have h2:=hs i j hi hj
  exact⟨by rw[← h2.1];exact h1.1,h2.2 R w h1.2⟩⟩
 refine⟨hr.defers,hr.env,hr.size,?_,?_,hr.evo,hr.inv,hr.obM,?_,hr.obw,hr.rr,hr.r0⟩
 ·intro i x hx;rw[List.getElem?_set] at hx;split at hx
  ·simp only[hidl,if_true,Option.some.injEq] at hx;subst hx;exact hok
  ·exact hr.own i x hx
 ·intro i j x y hij hx hy b hb1 hb2;rw[List.getElem?_set] at hx hy;split at hx<;>split at hy
  ·omega
  ·rename_i e1 _;subst e1;simp only[hidl,if_true,Option.some.injEq] at hx;subst hx;exact hr.dist id j _ y hij hid hy b (hblk ▸ hb1) hb2
  ·rename_i _ e1;subst e1;simp only[hidl,if_true,Option.some.injEq] at hy;subst hy;exact hr.dist i id x _ hij hx hid b hb1 (hblk ▸ hb2)
  ·exact hr.dist i j x y hij hx hy b hb1 hb2
 ·exact gb_set (m:=w0.w.heap.size) (Nat.le_refl _) hr.gb hid fun b hb=>.inl (hblk ▸ hb)
theorem simA_getD:∀ {l l':List SV},simA l l'→∀ j,sim (l.getD j default) (l'.getD j default)
 | [],[],_,j=>QE _
 | [],_ :: _,h,_=>h.elim
 | _ :: _,[],h,_=>h.elim
 | s :: l,s' :: l',h,0=>h.1
 | s :: l,s' :: l',h,j+1=>simA_getD (l:=l) (l':=l') h.2 j
theorem sim_tt:sim .tt (.b true):=⟨rfl,fun _ _ _=>trivial⟩
end Eng
end

section
namespace Eng
variable {P:Program}
/-! ### Finding a key -/
def findA (l:List Int):List (List Int×Value)→Nat→Option (Nat×Value)
 | [],_=>none
 | p :: ps,i=>if l=p.1 then some (i,p.2) else findA l ps (i+1)
theorem findA_at {l:List Int}:∀ {L:List (List Int×Value)} {i j:Nat} {x:Value},findA l L i=some (j,x)→∃ q,j=i+q∧L[q]? = some (l,x)
 | [],_,_,_,h=>by cases h
 | p :: ps,i,j,x,h=>by
  unfold findA at h;split at h
  ·rename_i e;simp only[Option.some.injEq,Prod.mk.injEq] at h;obtain⟨rfl,rfl⟩:=h;exact⟨0,rfl,by simp [e]⟩
  ·obtain⟨q,rfl,hq⟩:=findA_at h;exact⟨q+1,by omega,by simpa using hq⟩
theorem findA_none {l:List Int}:∀ {L:List (List Int×Value)} {i:Nat},findA l L i=none→∀ p∈L,p.1≠l
 | [],_,_,p,hp=>by cases hp
 | q :: ps,i,h,p,hp=>by
  unfold findA at h;split at h
  ·cases h
  ·rename_i hne;rcases List.mem_cons.1 hp with rfl|hp
   ·exact fun e=>hne e.symm
   ·exact findA_none h p hp
theorem findAsking_mq {t:TypeId} {ks:List IntKind} (h:kk P 20 t=some ks) {l:List Int} (hl:l.length=ks.length) (w:World) :
  ∀ (es:List MapEntry) (L:List (List Int×Value)) (i:Nat),es.map (fun e=>(e.key,e.val))=L.map (fun p=>(Xv (XE P t) ks p.1,p.2))→(∀ p∈L,p.1.length=ks.length) →
   (Instr.findAsking t (Xv (XE P t) ks l) es i).run P w=.ok (findA l L i) w
 | [],[],i,_,_=>by simp [Instr.findAsking,findA]
 | [],_ :: _,i,h1,_=>by simp at h1
 | _ :: _,[],i,h1,_=>by simp at h1
 | e :: es,p :: L,i,h1,h2=>by
  simp only[List.map_cons,List.cons.injEq,Prod.mk.injEq] at h1;obtain⟨⟨hk,hv⟩,h1⟩:=h1;have he:=equal_keys h hl (h2 p (by simp)) w;have hr:=findAsking_mq h hl w es L (i+1) h1 (fun p hp=>h2 p (by simp [hp]));unfold findA;by_cases hlp:l=p.1
  ·have he':=he;rw[hlp] at he';simp [Instr.findAsking,hk,hv,he',hlp]
  ·simp [Instr.findAsking,hk,he,hlp,hr]
theorem findKey_mq {t:TypeId} {ks:List IntKind} (h:kk P 20 t=some ks) {l:List Int} (hl:l.length=ks.length) (w:World) (es:List MapEntry) (L:List (List Int×Value))
  (h1:es.map (fun e=>(e.key,e.val))=L.map (fun p=>(Xv (XE P t) ks p.1,p.2))) (h2:∀ p∈L,p.1.length=ks.length) :
  (Instr.findKey t (Xv (XE P t) ks l) es).run P w=.ok (findA l L 0) w:=by
 have hask:=findAsking_mq h hl w es L 0 h1 h2;have hkk:=h;unfold kk at hkk;split at hkk
 ·rename_i q hu;simp only[Option.some.injEq] at hkk;subst hkk;have now:∀ (es:List MapEntry) (L:List (List Int×Value)) (i:Nat),es.map (fun e=>(e.key,e.val))=L.map (fun p=>(Xv (XE P t) [q] p.1,p.2))→(∀ p∈L,p.1.length=1) →
    Instr.findNow (.int q) (Xv (XE P t) [q] l) es i=some (findA l L i):=by
   intro es;have hs:XE P t=true:=by simp [XE,hu]
   obtain⟨x,rfl⟩:=List.length_eq_one_iff.1 hl
   induction es with
   | nil=>intro L i h1 _;cases L<;>simp_all [Instr.findNow,findA]
   | cons e es ih=>
    intro L i h1 h2;cases L with
    | nil=>simp at h1
    | cons p L=>
     simp only[List.map_cons,List.cons.injEq,Prod.mk.injEq] at h1;obtain⟨⟨hk,hv⟩,h1⟩:=h1;obtain⟨y,hy⟩:=List.length_eq_one_iff.1 (h2 p (by simp));have:=ih L (i+1) h1 (fun p hp=>h2 p (by simp [hp]));unfold findA Instr.findNow;rw[hk,hy];simp only[Xv,hs,if_true,ints,List.zipWith_cons_cons,List.zipWith_nil_left,List.headD_cons,Instr.sameNow] at this ⊢;by_cases hxy:x=y
     ·simp [hxy,hv]
     ·have hb:(x == y)=false:=by simpa using hxy
      simp only[hb]
      simpa [hxy] using this
  simp [Instr.findKey,run_underlying hu,Result.andThen,now es L 0 h1 h2]
 ·rename_i fs hu;have hsc:XE P t=false:=by simp [XE,hu]
  cases es with
  | nil=>
   cases L with
   | nil=>simp [Instr.findKey,run_underlying hu,Result.andThen,Instr.findNow,findA]
   | cons p L=>simp at h1
  | cons e es=>
   have hn:Instr.findNow (.struct fs) (Xv (XE P t) ks l) (e :: es) 0=none:=by
    simp [Instr.findNow,Instr.sameNow]
   simp [Instr.findKey,run_underlying hu,Result.andThen,hn,hask]
 ·cases hkk
/-! ### The type of a map -/
def mqT (P:Program) (t:TypeId):Option (Bool×List IntKind×TypeId):=match P.underlying t with
 | some (.map k e)=>(kk P 20 k).map fun ks=>(XE P k,ks,e)
 | _=>none
theorem mqT_ok {t:TypeId} {sc:Bool} {ks:List IntKind} {e:TypeId} (h:mqT P t=some (sc,ks,e)):∃ k,P.underlying t=some (.map k e)∧kk P 20 k=some ks∧sc=XE P k:=by
 unfold mqT at h;split at h
 ·rename_i k e' hu;cases hk:kk P 20 k with
  | none=>rw[hk] at h;cases h
  | some ks'=>
   rw[hk] at h;simp only[Option.map_some,Option.some.injEq,Prod.mk.injEq] at h;obtain⟨rfl,rfl,rfl⟩:=h;exact⟨k,hu,hk,rfl⟩
 ·cases h
theorem zero_run {e:TypeId} {z:Value} (h:(P.info? e).bind (·.zero)=some z) (w:World):(zeroValue e).run P w=.ok z w:=by
 simp only[Option.bind_eq_some_iff] at h;obtain⟨i,hi,hiz⟩:=h;simp [zeroValue,typeInfo,hi,hiz]
/-! ### A map in memory -/
section
variable {w:World} {blk:Nat} {sc:Bool} {ks:List IntKind} {n:Nat} {key:Nat→List Int} {val:Nat→Value}
theorem mqEs_at {i:Nat} (hi:i<n):(mqEs sc ks n key val)[i]? = some ⟨Xv sc ks (key i),val i,i⟩:=by
 unfold mqEs;rw[List.getElem?_map,List.getElem?_range hi];rfl
theorem mqEs_len:(mqEs sc ks n key val).length=n:=by simp [mqEs]
theorem mq_find {t:TypeId} (h:kk P 20 t=some ks) (hm:MqAt w blk (XE P t) ks n key val) {l:List Int} (hl:l.length=ks.length) (w':World) :
  (∃ i,i<n∧key i=l∧(Instr.findKey t (Xv (XE P t) ks l) (mqEs (XE P t) ks n key val)).run P w'=.ok (some (i,val i)) w') ∨
  ((∀ i,i<n→key i≠l)∧(Instr.findKey t (Xv (XE P t) ks l) (mqEs (XE P t) ks n key val)).run P w'=.ok none w'):=by
 have hf:=findKey_mq (P:=P) h hl w' (mqEs (XE P t) ks n key val) ((List.range n).map fun i=>(key i,val i)) (by simp [mqEs,List.map_map,Function.comp_def]) (fun p hp=>by
  obtain⟨i,hi,rfl⟩:=List.mem_map.1 hp
  exact hm.len i (by simpa using hi))
 cases hA:findA l ((List.range n).map fun i=>(key i,val i)) 0 with
 | none=>
  rw[hA] at hf;exact .inr ⟨fun i hi=>findA_none hA (key i,val i) (List.mem_map.2 ⟨i,by simpa using hi,rfl⟩),hf⟩
 | some p=>
  obtain⟨j,x⟩:=p;obtain⟨q,hq,hL⟩:=findA_at hA;rw[Nat.zero_add] at hq;subst hq;rw[List.getElem?_map,Option.map_eq_some_iff] at hL;obtain⟨i,hi,he⟩:=hL;obtain⟨hj,rfl⟩:=List.getElem?_eq_some_iff.1 hi;simp only[List.length_range] at hj;simp only[List.getElem_range,Prod.mk.injEq] at he;rw[hA] at hf;exact .inl ⟨j,hj,he.1,by rw[hf,← he.2]⟩
theorem mq_check {t:TypeId} (h:kk P 20 t=some ks) {l:List Int} (hl:l.length=ks.length) (b:Bool) (w':World):(Instr.checkKey b 10000 t (Xv (XE P t) ks l)).run P w'=.ok () w':=by
 have:=check_kk (P:=P) b 20 t ks h l hl 9980 w';rw[← keyV_whole h] at this;exact this
theorem run_lookup_mq {t e:TypeId} (ht:mqT P t=some (sc,ks,e)) (hm:MqAt w blk sc ks n key val) {l:List Int} (hl:l.length=ks.length) (c:Bool) {z:Value} (hz:(P.info? e).bind (·.zero)=some z) :
  (∃ i,i<n∧key i=l∧(Instr.lookup t (.map (some blk)) (Xv sc ks l) c).run P w=.ok (if c then .tuple #[val i,.bool true] else val i) w) ∨
  ((∀ i,i<n→key i≠l)∧(Instr.lookup t (.map (some blk)) (Xv sc ks l) c).run P w=.ok (if c then .tuple #[z,.bool false] else z) w):=by
 obtain⟨k,hu,hk,rfl⟩:=mqT_ok ht;have hck:=mq_check hk hl (mqEs (XE P k) ks n key val).isEmpty w;rcases mq_find hk hm hl w with ⟨i,hi,he,hf⟩|⟨hno,hf⟩
 ·refine .inl ⟨i,hi,he,?_⟩;cases c<;>simp [Instr.lookup,run_underlying hu,MapKept.run_getObj_map hm.heap,hck,hf]
 ·refine .inr ⟨hno,?_⟩;cases c<;>simp [Instr.lookup,run_underlying hu,MapKept.run_getObj_map hm.heap,hck,hf,zero_run hz]
theorem mq_setk {i:Nat} (hi:i<n) (v:Value):(mqEs sc ks n key val).modify i (fun e=>{ e with key:=Xv sc ks (key i),val:=v })=mqEs sc ks n key fun j=>if j=i then v else val j:=by
 apply List.ext_getElem?;intro q;rw[List.getElem?_modify];rcases Nat.lt_or_ge q n with hq|hq
 ·rw[mqEs_at hq,mqEs_at hq];by_cases h:i=q
  ·subst h;simp
  ·simp [h,Ne.symm h]
 ·rw[List.getElem?_eq_none (by rw[mqEs_len];exact hq),List.getElem?_eq_none (by rw[mqEs_len];exact hq)];rfl
theorem mq_push (l:List Int) (v:Value):mqEs sc ks n key val ++ [⟨Xv sc ks l,v,n⟩]=mqEs sc ks (n+1) (fun j=>if j=n then l else key j) fun j=>if j=n then v else val j:=by
 unfold mqEs;rw[List.range_succ,List.map_append]
 congr 1
 ·apply List.map_congr_left;intro i hi;have h8:i<n:=by simpa using hi
  have:i≠n:=by omega
  simp [this]
 ·simp
end
/-! ### The rules -/
def MqIn (env:List (Nat×SV)) (own:List Own) (m:Operand) (blk:Nat) (sc:Bool) (ks:List IntKind) (n:Nat) (key:Nat→List Int) (val:Nat→SV):Prop:=
 ∀ R B a w,EnvOk R env a w→OwnsOk R B own w→a.eval m=.map (some blk)∧MqAt w blk sc ks n key (fun i=>(val i).den)∧∀ i,i<n→(val i).ok R w
section
variable {F:Frm} {N:Nat} {env:List (Nat×SV)} {own:List Own} {k:St→Prop} {dst:Option Tmp}
variable {blk:Nat} {sc:Bool} {ks:List IntKind} {n:Nat} {key:Nat→List Int} {val:Nat→SV}
theorem mqIn_rm {m:Operand} (h:ev env m=some (.rm blk sc ks n key val)):MqIn env own m blk sc ks n key val:=fun R B a w he ho=>by
 have:=QC he h;exact⟨this.1,this.2.2.1,this.2.2.2⟩
theorem mqIn_own {m:Operand} {id:Nat} (h:ev env m=some (.mp id blk)) (ho:own[id]? = some (.mq blk sc ks n key val)):MqIn env own m blk sc ks n key val:=fun R B a w he how=>by
 have h1:=QC he h;have h2:=how id _ ho;exact⟨h1.1,h2.2.2.1,h2.2.2.2⟩
theorem makeMq {t e:TypeId} {sc:Bool} {ks:List IntKind} (ht:mqT P t=some (sc,ks,e)) (hd:Zr ⟨N,env,own⟩ dst)
  (h:∀ blk:Nat,k (St.put ⟨N,env,own ++ [.mq blk sc ks 0 (fun _=>[]) (fun _=>default)]⟩ dst (.mp own.length blk))):Good P F (.makeMap t none) dst ⟨N,env,own⟩ k:=by
 rintro R0 w0 a w o next Q ho rfl ⟨ob,R,hr⟩ hk
 have hex:(execOp a.eval o).run P w=.ok (.value (.map (some w.heap.size))) (w.alloc (.map #[] 0)):=by
  unfold execOp;rw[ho];simp [Instr.makeMap]
 unfold Oper.wp;have hdr:=Zn _ _ hex;rw[hex];have hg:w.grownBy (w.alloc (.map #[] 0)) none:=World.grownBy_alloc w _ none;have hnew:=hr.newRow (o:=.mq w.heap.size sc ks 0 (fun _=>[]) fun _=>default) hg (fun b hb=>by simpa [Own.blk] using hb.symm)
  ⟨hr.obw,fun hc=>by have:=(hr.rr _ hc).1;omega,⟨(MapKept.heap_alloc w _).1,fun i hi=>absurd hi (Nat.not_lt_zero _),fun i j hi=>absurd hi (Nat.not_lt_zero _)⟩,fun i hi=>absurd hi (Nat.not_lt_zero _)⟩
 exact hk _ _ _ (h w.heap.size) ⟨ob,R,hnew.put (s:=.mp own.length w.heap.size) (Qy hd) trivial⟩
theorem lookMq {t e:TypeId} {m x:Operand} {c:Bool} {s:SV} {l:List Int} (ht:mqT P t=some (sc,ks,e)) (hm:MqIn env own m blk sc ks n key val) (hx:ev env x=some s) (hs:keyS sc s=some (ks,l))
  (zs:SV) (hz:(P.info? e).bind (·.zero)=some zs.den) (hzo:∀ R w,zs.ok R w) (hd:Zr ⟨N,env,own⟩ dst)
  (h1:∀ i,i<n→key i=l→k (St.put ⟨N,env,own⟩ dst (if c=true then .tup 2 fun j=>[val i,.tt].getD j default else val i)))
  (h2:(∀ i,i<n→key i≠l)→k (St.put ⟨N,env,own⟩ dst (if c=true then .tup 2 fun j=>[zs,.ff].getD j default else zs))):Good P F (.lookup t m x c) dst ⟨N,env,own⟩ k:=by
 rintro R0 w0 a w o next Q ho rfl ⟨ob,R,hr⟩ hk
 obtain⟨g1,g2⟩:=keyS_ok hs;obtain⟨hev,hmq,hvo⟩:=hm R ob a w hr.env hr.own;have h3:=run_lookup_mq (P:=P) ht hmq g2 c hz;have hkx:=(QC hr.env hx).1;unfold Oper.wp;rcases h3 with ⟨i,hi,he,hrun⟩|⟨hno,hrun⟩
 ·have hex:(execOp a.eval o).run P w=.ok (.value (if c=true then SV.tup 2 fun j=>[val i,.tt].getD j default else val i).den) w:=by
   unfold execOp;rw[ho];cases c<;>simp [hev,hkx,g1,hrun,SV.den,List.range_succ]
  have hdr:=Zn _ _ hex;rw[hex];refine hk _ _ _ (h1 i hi he) ⟨ob,R,hr.put (Qy hd) ?_⟩;cases c
  ·exact hvo i hi
  ·intro j hj;rcases (show j=0∨j=1 by omega) with rfl|rfl
   ·exact hvo i hi
   ·trivial
 ·have hex:(execOp a.eval o).run P w=.ok (.value (if c=true then SV.tup 2 fun j=>[zs,.ff].getD j default else zs).den) w:=by
   unfold execOp;rw[ho];cases c<;>simp [hev,hkx,g1,hrun,SV.den,List.range_succ]
  have hdr:=Zn _ _ hex;rw[hex];refine hk _ _ _ (h2 hno) ⟨ob,R,hr.put (Qy hd) ?_⟩;cases c
  ·exact hzo R w
  ·intro j hj;rcases (show j=0∨j=1 by omega) with rfl|rfl
   ·exact hzo R w
   ·trivial
theorem RelR.setMq {R0 R:Nat→Prop} {w0:Org} {w:World} {ob:Nat} {a:Act} (hr:RelR F R0 w0 ob R ⟨N,env,own⟩ a w) {id:Nat} (ho:own[id]? = some (.mq blk sc ks n key val)) {n':Nat} {key':Nat→List Int} {val':Nat→SV}
  (hl:∀ i,i<n'→(key' i).length=ks.length) (hi:∀ i j,i<n'→j<n'→key' i=key' j→i=j) (hv:∀ i,i<n'→(val' i).ok R w) :
  RelR F R0 w0 ob R ⟨N,env,own.set id (.mq blk sc ks n' key' val')⟩ a { w with heap:=w.heap.setIfInBounds blk (.map (mqEs sc ks n' key' fun i=>(val' i).den).toArray n') }:=by
 obtain⟨b1,b2,b3,b4⟩:=hr.own id _ ho;have hb0:=b3.heap;have hRb:∀ b,R b→(w.heap.setIfInBounds blk (.map (mqEs sc ks n' key' fun i=>(val' i).den).toArray n'))[b]? = w.heap[b]? := fun b hb=>(MapKept.heap_set hb0).2 b (fun e=>b2 (e ▸ hb));exact hr.setOwn (o':=.mq blk sc ks n' key' val') (g:=blk) ho rfl (fun b hb=>by simpa [Own.blk] using hb.symm) (w':={ w with heap:=w.heap.setIfInBounds blk (.map (mqEs sc ks n' key' fun i=>(val' i).den).toArray n') }) rfl rfl rfl (by simp) (fun b _ hne=>(MapKept.heap_set hb0).2 b hne)
  ⟨b1,b2,⟨(MapKept.heap_set hb0).1,hl,hi⟩,fun i hi=>QD (fun _ h=>h) hRb _ (hv i hi)⟩
/-! ### Ranging over a map -/
def ZS (it blk n:Nat) (seen:List Nat) (w:World):Prop:=w.heap[it]? = some (.mapIter (some blk) n seen.toArray n)
theorem rangeMq {t e:TypeId} {x:Operand} (ht:mqT P t=some (sc,ks,e)) (hm:MqIn env own x blk sc ks n key val) (hd:Zr ⟨N,env,own⟩ dst)
  (h:∀ it:Nat,k (St.put ⟨N,env,own ++ [.res it (ZS it blk n [])]⟩ dst (.v (.pointer (some ⟨it,0,none⟩))))):Good P F (.range t x) dst ⟨N,env,own⟩ k:=by
 rintro R0 w0 a w o next Q ho rfl ⟨ob,R,hr⟩ hk
 obtain⟨hev,hmq,hvo⟩:=hm R ob a w hr.env hr.own;obtain⟨kt,hu,hk20,rfl⟩:=mqT_ok ht;have hrun:=run_range_map (P:=P) w t kt e blk _ n hu hmq.heap
 have hex:(execOp a.eval o).run P w=.ok (.value (.pointer (some ⟨w.heap.size,0,none⟩))) (w.alloc (.mapIter (some blk) n #[] n)):=by
  unfold execOp;rw[ho];simp [hev,hrun]
 unfold Oper.wp;have hdr:=Zn _ _ hex;rw[hex];have hg:w.grownBy (w.alloc (.mapIter (some blk) n #[] n)) none:=World.grownBy_alloc w _ none;have hnew:=hr.newRow (o:=.res w.heap.size (ZS w.heap.size blk n [])) hg (fun b hb=>by simpa [Own.blk] using hb.symm)
  ⟨hr.obw,fun hc=>by have:=(hr.rr _ hc).1;omega,(by show w.heap.size<(w.heap.push _).size;simp),fun w' hw'=>by
   unfold ZS;rw[hw' _ (.inr rfl)]
   exact (MapKept.heap_alloc w _).1⟩
 exact hk _ _ _ (h w.heap.size) ⟨ob,R,hnew.put (s:=.v (.pointer (some ⟨w.heap.size,0,none⟩))) (Qy hd) trivial⟩
theorem mem_mqEs {sc:Bool} {val:Nat→Value} {e:MapEntry} (h:e∈mqEs sc ks n key val):∃ i,i<n∧e=⟨Xv sc ks (key i),val i,i⟩:=by
 obtain⟨i,hi,rfl⟩:=List.mem_map.1 h;exact⟨i,by simpa using hi,rfl⟩
theorem run_next_mq {w:World} {it:Nat} {seen:List Nat} {val:Nat→Value} (ty:TypeId) (hit:ZS it blk n seen w) (hm:MqAt w blk sc ks n key val) :
  ((∀ i,i<n→i∈seen)∧(Instr.next (.pointer (some ⟨it,0,none⟩)) false ty).run P w=.ok (.tuple #[.bool false]) w) ∨
  ∃ i,i<n∧i∉seen∧∃ w1:World,(w1=w∨w1=w.drew)∧(Instr.next (.pointer (some ⟨it,0,none⟩)) false ty).run P w=.ok (.tuple #[.bool true,Xv sc ks (key i),val i]) { w1 with heap:=w.heap.setIfInBounds it (.mapIter (some blk) n (seen ++ [i]).toArray n) }:=by
 unfold ZS at hit
 have htest:=next_test_false seen.toArray (mqEs sc ks n key val).toArray n n (fun x hx=>by
  obtain⟨i,hi,rfl⟩:=mem_mqEs (by simpa using hx)
  exact hi) (Nat.le_refl _)
 simp only[Instr.next,getObj,Sem.run_bind,Sem.run,hit,hm.heap,Result.andThen,htest,Bool.false_eq_true,if_false]
 have hmem:∀ x∈(Array.filter (fun e=>!seen.toArray.contains e.born) (mqEs sc ks n key val).toArray).toList,∃ i,i<n∧i∉seen∧x=⟨Xv sc ks (key i),val i,i⟩:=fun x hx=>by
  simp only[Array.toList_filter,List.mem_filter] at hx;obtain⟨i,hi,rfl⟩:=mem_mqEs (by simpa using hx.1);exact⟨i,hi,by simpa using hx.2,rfl⟩
 have hall:∀ i,i<n→i∉seen→(⟨Xv sc ks (key i),val i,i⟩:MapEntry)∈(Array.filter (fun e=>!seen.toArray.contains e.born) (mqEs sc ks n key val).toArray).toList:=fun i hi hs=>by
  simp only[Array.toList_filter,List.mem_filter];exact⟨List.mem_map.2 ⟨i,by simpa using hi,rfl⟩,by simpa using hs⟩
 generalize Array.filter (fun e=>!seen.toArray.contains e.born) (mqEs sc ks n key val).toArray=L at hmem hall ⊢
 have e1:L.filter (fun x=>decide (x.born<n))=L:=Array.filter_eq_self.2 (fun x hx=>by
  obtain⟨i,hi,_,rfl⟩:=hmem x (by simpa using hx)
  simpa using hi)
 have e2:L.filter (fun x=>decide (x.born ≥ n))=#[]:=by
  rw[Array.filter_eq_empty_iff];intro x hx;obtain⟨i,hi,_,rfl⟩:=hmem x (by simpa using hx)
  simpa using hi
 simp only[e1,e2,Array.append_empty];by_cases h0:L.size=0
 ·left
  have:L=#[]:=Array.eq_empty_of_size_eq_zero h0
  subst this;refine⟨fun i hi=>?_,?_⟩
  ·by_cases hs:i∈seen
   ·exact hs
   ·exact absurd (hall i hi hs) (by simp)
  ·simp [choose,Sem.run,Question.forced]
 ·right;have hne:L.isEmpty=false:=by simp [Array.isEmpty,h0]
  simp only[hne,Bool.false_eq_true,if_false,Array.empty_append,Array.size_map]
  have hch:∃ (j:Nat) (w1:World),j<L.size∧(w1=w∨w1=w.drew)∧(choose (Question.mapNext L.size)).run P w=.ok j w1:=by
   by_cases hf:L.size≤1
   ·exact⟨0,w,by omega,.inl rfl,by simp [choose,Sem.run,Question.forced,hf]⟩
   ·exact⟨_,w.drew,Nat.mod_lt _ (by omega),.inr rfl,by
     simp only[choose,Sem.run,Question.forced,decide_eq_true_eq,hf,if_false,Question.cut]
     rfl⟩
  obtain⟨j,w1,hj,hal,hrun⟩:=hch;obtain⟨i,hi,hs,he⟩:=hmem L[j] (by simp);refine⟨i,hi,hs,w1,hal,?_⟩
  have hit1:w1.heap[it]? = some (.mapIter (some blk) n seen.toArray n):=by
   rcases hal with rfl|rfl
   ·exact hit
   ·exact hit
  have hh:w1.heap=w.heap:=by rcases hal with rfl|rfl<;>rfl
  simp only[hrun,Array.getElem?_map,Array.getElem?_eq_getElem hj,Option.map_some,he,Sem.run_bind,setObj,Sem.run,hh,hit,Result.andThen];simp
theorem nextMq {x m:Operand} {b:Bool} {it oid:Nat} {seen:List Nat} (hb:b=false) (hx:ev env x=some (.v (.pointer (some ⟨it,0,none⟩)))) (hoid:own[oid]? = some (.res it (ZS it blk n seen))) (hm:MqIn env own m blk sc ks n key val)
  (kv:Nat→SV) (hkv:∀ i,i<n→(kv i).den=Xv sc ks (key i)) (hko:∀ i R w,(kv i).ok R w) (hd:Zr ⟨N,env,own⟩ dst)
  (h1:∀ i,i<n→i∉seen→k (St.put ⟨N,env,own.set oid (.res it (ZS it blk n (seen ++ [i])))⟩ dst (.tup 3 fun j=>[.tt,kv i,val i].getD j default)))
  (h2:(∀ i,i<n→i∈seen)→k (St.put ⟨N,env,own⟩ dst (.tup 1 fun j=>[.ff].getD j default))):Good P F (.next x b) dst ⟨N,env,own⟩ k:=by
 subst hb;rintro R0 w0 a w o next Q ho rfl ⟨ob,R,hr⟩ hk
 obtain⟨hev,hmq,hvo⟩:=hm R ob a w hr.env hr.own;have hex':=(QC hr.env hx).1;obtain⟨b1,b2,b3,b4⟩:=hr.own oid _ hoid;have hit:=b4 w fun _ _=>rfl;unfold Oper.wp;rcases run_next_mq (P:=P) o.type hit hmq with ⟨hall,hrun⟩|⟨i,hi,hs,w1,hal,hrun⟩
 ·have hex:(execOp a.eval o).run P w=.ok (.value (SV.tup 1 fun j=>[.ff].getD j default).den) w:=by
   unfold execOp;rw[ho];simp [hex',hrun,SV.den,List.range_succ]
  have hdr:=Zn _ _ hex;rw[hex];refine hk _ _ _ (h2 hall) ⟨ob,R,hr.put (Qy hd) fun j hj=>?_⟩;obtain rfl:j=0:=by omega
  trivial
 ·have hex:(execOp a.eval o).run P w=.ok (.value (SV.tup 3 fun j=>[.tt,kv i,val i].getD j default).den) { w1 with heap:=w.heap.setIfInBounds it (.mapIter (some blk) n (seen ++ [i]).toArray n) }:=by
   unfold execOp;rw[ho];simp [hex',hrun,SV.den,List.range_succ,hkv i hi]
  have hdr:=Zn _ _ hex;rw[hex];have hw1:w1.os=w.os∧w1.tape=w.tape∧w1.output=w.output:=by rcases hal with rfl|rfl<;>exact⟨rfl,rfl,rfl⟩
  have hnb:blk≠it:=fun e=>by
   subst e;have:=hmq.heap;unfold ZS at hit;rw[hit] at this;cases this
  have hnew:=hr.setOwn (o':=.res it (ZS it blk n (seen ++ [i]))) (g:=it) hoid rfl (fun b hb=>by simpa [Own.blk] using hb.symm) (w':={ w1 with heap:=w.heap.setIfInBounds it (.mapIter (some blk) n (seen ++ [i]).toArray n) }) hw1.1 hw1.2.1 hw1.2.2 (by simp) (fun b _ hne=>by simp [Array.getElem?_setIfInBounds,Ne.symm hne])
   ⟨b1,b2,by simpa using b3,fun w' hw'=>by
    have:=hw' it (.inr rfl);unfold ZS;rw[this]
    simp [Array.getElem?_setIfInBounds,b3]⟩
  have hRb:∀ b,R b→(w.heap.setIfInBounds it (.mapIter (some blk) n (seen ++ [i]).toArray n))[b]? = w.heap[b]? := fun b hb=>by
   have hne:it≠b:=fun e=>b2 (e ▸ hb);simp [Array.getElem?_setIfInBounds,hne]
  refine hk _ _ _ (h1 i hi hs) ⟨ob,R,hnew.put (s:=.tup 3 fun j=>[.tt,kv i,val i].getD j default) (Qy hd) fun j hj=>?_⟩;rcases (show j=0∨j=1∨j=2 by omega) with rfl|rfl|rfl
  ·trivial
  ·exact hko i _ _
  ·exact QD (fun _ h=>h) hRb _ (hvo i hi)
theorem entryIterMq {x m:Operand} {it oid i:Nat} {seen:List Nat} (hx:ev env x=some (.v (.pointer (some ⟨it,0,none⟩)))) (hoid:own[oid]? = some (.res it (ZS it blk n (seen ++ [i])))) (hi:i<n) (hm:MqIn env own m blk sc ks n key val)
  (kv:Nat→SV) (hkv:(kv i).den=Xv sc ks (key i)) (hko:∀ R w,(kv i).ok R w) (hd:Zr ⟨N,env,own⟩ dst)
  (h:k (St.put ⟨N,env,own⟩ dst (.tup 2 fun j=>[kv i,val i].getD j default))):Good P F (.entry x) dst ⟨N,env,own⟩ k:=by
 rintro R0 w0 a w o next Q ho rfl ⟨ob,R,hr⟩ hk
 obtain⟨hev,hmq,hvo⟩:=hm R ob a w hr.env hr.own;have hex':=(QC hr.env hx).1;obtain⟨b1,b2,b3,b4⟩:=hr.own oid _ hoid;have hit:=b4 w fun _ _=>rfl;unfold ZS at hit
 have hfind:(mqEs sc ks n key fun i=>(val i).den).find? (fun e=>e.born == i)=some ⟨Xv sc ks (key i),(val i).den,i⟩:=
  find_born ⟨Xv sc ks (key i),(val i).den,i⟩ _ (by simp [mqEs,List.map_map,Function.comp_def,List.nodup_range]) (List.mem_map.2 ⟨i,by simpa using hi,rfl⟩)
 have hrun:(Instr.entry (.pointer (some ⟨it,0,none⟩))).run P w=.ok (.tuple #[Xv sc ks (key i),(val i).den]) w:=by
  simp [Instr.entry,getObj,Sem.run,hit,hmq.heap,Result.andThen,hfind]
 unfold Oper.wp
 have hex:(execOp a.eval o).run P w=.ok (.value (SV.tup 2 fun j=>[kv i,val i].getD j default).den) w:=by
  unfold execOp;rw[ho];simp [hex',hrun,SV.den,List.range_succ,hkv]
 have hdr:=Zn _ _ hex;rw[hex];refine hk _ _ _ h ⟨ob,R,hr.put (Qy hd) fun j hj=>?_⟩;rcases (show j=0∨j=1 by omega) with rfl|rfl
 ·exact hko R w
 ·exact hvo i hi
theorem updMq {t e:TypeId} {m x y:Operand} {s v:SV} {l:List Int} {id:Nat} (ht:mqT P t=some (sc,ks,e)) (hm:ev env m=some (.mp id blk)) (hid:own[id]? = some (.mq blk sc ks n key val)) (hx:ev env x=some s) (hs:keyS sc s=some (ks,l)) (hy:ev env y=some v) (hd:Zr ⟨N,env,own⟩ dst)
  (h1:∀ i,i<n→key i=l→k (St.put ⟨N,env,own.set id (.mq blk sc ks n key (fun j=>if j=i then v else val j))⟩ dst (.v undef)))
  (h2:(∀ i,i<n→key i≠l)→k (St.put ⟨N,env,own.set id (.mq blk sc ks (n+1) (fun j=>if j=n then l else key j) (fun j=>if j=n then v else val j))⟩ dst (.v undef))):Good P F (.mapUpdate t m x y) dst ⟨N,env,own⟩ k:=by
 rintro R0 w0 a w o next Q ho rfl ⟨ob,R,hr⟩ hk
 obtain⟨g1,g2⟩:=keyS_ok hs;obtain⟨hev,hmq,hvo⟩:=mqIn_own hm hid R ob a w hr.env hr.own;have hkx:=(QC hr.env hx).1;have hky:=QC hr.env hy;obtain⟨kt,hu,hk20,rfl⟩:=mqT_ok ht;have hck:=mq_check hk20 g2 false w;unfold Oper.wp;rcases mq_find hk20 hmq g2 w with ⟨i,hi,he,hf⟩|⟨hno,hf⟩
 ·have hrun:(Instr.mapUpdate t (.map (some blk)) (Xv (XE P kt) ks l) v.den).run P w=.ok () { w with heap:=w.heap.setIfInBounds blk (.map (mqEs (XE P kt) ks n key fun j=>(if j=i then v else val j:SV).den).toArray n) }:=by
   have hat:=mqEs_at (sc:=XE P kt) (ks:=ks) (key:=key) (val:=fun i=>(val i).den) hi;have hmod:=mq_setk (sc:=XE P kt) (ks:=ks) (key:=key) (val:=fun i=>(val i).den) hi v.den;have hpe:(fun j=>if j=i then v.den else (val j).den)=fun j=>(if j=i then v else val j:SV).den:=by funext j;split<;>rfl
   rw[hpe] at hmod;subst he;simp [Instr.mapUpdate,run_underlying hu,MapKept.run_getObj_map hmq.heap,hck,hf,hat,stays_mp hk20 g2,MapKept.run_setObj_map _ hmq.heap,Result.andThen,hmod]
  have hex:(execOp a.eval o).run P w=.ok .skip { w with heap:=w.heap.setIfInBounds blk (.map (mqEs (XE P kt) ks n key fun j=>(if j=i then v else val j:SV).den).toArray n) }:=by
   unfold execOp;rw[ho];simp [hev,hkx,hky.1,g1,hrun]
  have hdr:=Zn _ _ hex;rw[hex]
  have hnew:=hr.setMq hid (n':=n) (key':=key) (val':=fun j=>if j=i then v else val j) hmq.len hmq.inj (fun j hj=>by
   show (if j=i then v else val j:SV).ok R w;split
   ·exact hky.2
   ·exact hvo j hj)
  exact hk _ _ _ (h1 i hi he) ⟨ob,R,hnew.put (s:=.v undef) (Qy hd) trivial⟩
 ·have hrun:(Instr.mapUpdate t (.map (some blk)) (Xv (XE P kt) ks l) v.den).run P w=.ok () { w with heap:=w.heap.setIfInBounds blk (.map (mqEs (XE P kt) ks (n+1) (fun j=>if j=n then l else key j) fun j=>(if j=n then v else val j:SV).den).toArray (n+1)) }:=by
   have hp:=mq_push (sc:=XE P kt) (ks:=ks) (n:=n) (key:=key) (val:=fun i=>(val i).den) l v.den;have hpe:(fun j=>if j=n then v.den else (val j).den)=fun j=>(if j=n then v else val j:SV).den:=by funext j;split<;>rfl
   rw[hpe] at hp;simp [Instr.mapUpdate,run_underlying hu,MapKept.run_getObj_map hmq.heap,hck,hf,MapKept.run_setObj_map _ hmq.heap,Result.andThen,hp]
  have hex:(execOp a.eval o).run P w=.ok .skip { w with heap:=w.heap.setIfInBounds blk (.map (mqEs (XE P kt) ks (n+1) (fun j=>if j=n then l else key j) fun j=>(if j=n then v else val j:SV).den).toArray (n+1)) }:=by
   unfold execOp;rw[ho];simp [hev,hkx,hky.1,g1,hrun]
  have hdr:=Zn _ _ hex;rw[hex]
  have hnew:=hr.setMq hid (n':=n+1) (key':=fun j=>if j=n then l else key j) (val':=fun j=>if j=n then v else val j) (fun i hi=>by
    show (if i=n then l else key i).length=_;split
    ·exact g2
    ·exact hmq.len i (by omega)) (fun i j hi hj hij=>by
    split at hij<;>split at hij
    ·omega
    ·exact absurd hij.symm (hno j (by omega))
    ·exact absurd hij (hno i (by omega))
    ·exact hmq.inj i j (by omega) (by omega) hij) (fun i hi=>by
    show (if i=n then v else val i:SV).ok R w;split
    ·exact hky.2
    ·exact hvo i (by omega))
  exact hk _ _ _ (h2 hno) ⟨ob,R,hnew.put (s:=.v undef) (Qy hd) trivial⟩
theorem Sat.settleMap {c:Code} {K:Exit→St→Prop} (t:Nat) {id:Nat} (hl:look env t=some (.mp id blk)) (ho:own[id]? = some (.mq blk sc ks n key val))
  (h:Sat P F c ⟨N,(t,.rm blk sc ks n key val) :: env,own.set id .gone⟩ K):Sat P F c ⟨N,env,own⟩ K:=by
 rintro R0 w0 a w ⟨ob,R,hr⟩;have hidl:id<own.length:=(List.getElem?_eq_some_iff.1 ho).1;have hob:=hr.own id _ ho;obtain⟨b1,b2,b3,b4⟩:=hob;have hblt:blk<w.heap.size:=(Array.getElem?_eq_some_iff.1 b3.heap).1
 have hr':RelR F R0 w0 ob (fun b=>R b∨b=blk) ⟨N,env,own.set id .gone⟩ a w:=by
  refine hr.turn (fun _=>False) rfl rfl rfl (Nat.le_refl _) (fun _ h=>h.elim) (fun _ _ _=>rfl) (fun _ h=>.inl h) (fun b hb=>?_) ?_ ?_ (gb_set hr.evo.size hr.gb ho fun b hb=>by cases hb)
  ·rcases hb with hb|rfl
   ·exact .inl hb
   ·exact .inr ⟨b1,hblt,hr.gb id _ ho b rfl⟩
  ·intro i x hx;rw[List.getElem?_set] at hx;split at hx
   ·rename_i e';subst e';simp only[hidl,if_true,Option.some.injEq] at hx;subst hx;trivial
   ·rename_i hne;refine Zy (hr.own i x hx) (fun _ h=>.inl h) (fun b hbx hb=>?_) (fun _ _=>rfl) (fun _ _=>rfl);rcases hb with hb|rfl
    ·exact hb
    ·exact absurd hbx (hr.dist id i _ x hne ho hx b rfl)
  ·intro i j o1 o2 hij h1 h2 b hb1 hb2;rw[List.getElem?_set] at h1 h2;split at h1<;>split at h2
   ·omega
   ·rename_i e' hne;subst e';simp only[hidl,if_true,Option.some.injEq] at h1;subst h1;cases hb1
   ·rename_i hne e';subst e';simp only[hidl,if_true,Option.some.injEq] at h2;subst h2;cases hb2
   ·exact hr.dist i j o1 o2 hij h1 h2 b hb1 hb2
 refine h R0 w0 a w ⟨ob,_,hr'.defers,?_,hr'.size,hr'.own,hr'.dist,hr'.evo,hr'.inv,hr'.obM,hr'.gb,hr'.obw,hr'.rr,hr'.r0⟩;intro u s hu;simp only[look] at hu;split at hu
 ·rename_i e;simp only[Option.some.injEq] at hu;subst hu;subst e;exact⟨(hr'.env t _ hl).1,.inr rfl,b3,fun i hi=>QD (fun _ h=>.inl h) (fun _ _=>rfl) _ (b4 i hi)⟩
 ·exact hr'.env u s hu
end
end Eng
end

section
namespace Eng
section
variable {P:Program} {F:Frm}
theorem SatJ.adoptBox {c:Code} {rd9:Option Nat} {ds:List Deferred} {K:Exit→List Deferred→St→Prop} {n:Nat} {env:List (Nat×SV)} {own:List Own} (id j:Nat) (e sz:Nat) (rd:Nat→Nat→SV) {blk ty sz0:Nat} {cs:List SV} {rd0:Nat→Nat→SV} (hl:own[id]? = some (.box blk ty cs)) (hj:cs[j]? = some (.sl none 0 0 sz0 rd0))
  (h:SatJ P F rd9 c ds ⟨n,env,own.set id (.box blk ty (cs.set j (.os own.length none 0 0))) ++ [.row none e 0 0 sz rd]⟩ K):SatJ P F rd9 c ds ⟨n,env,own⟩ K:=by
 rintro R0 w0 a w ⟨ob,R,hr⟩ n9;refine h R0 w0 a w ⟨ob,R,?_⟩ n9;have hbox:=hr.own id _ hl;have hidl:id<own.length:=(List.getElem?_eq_some_iff.1 hl).1;have hjl:j<cs.length:=(List.getElem?_eq_some_iff.1 hj).1
 have hden:(cs.set j (.os own.length none 0 0)).map SV.den=cs.map SV.den:=by
  apply List.ext_getElem?;intro q;rw[List.getElem?_map,List.getElem?_map,List.getElem?_set];by_cases e:j=q
  ·subst e;rw[if_pos rfl,if_pos hjl,hj];rfl
  ·rw[if_neg e]
 have hok:(Own.box blk ty (cs.set j (.os own.length none 0 0))).ok R ob w:=by
  refine⟨hbox.1,hbox.2.1,by rw[hden];exact hbox.2.2.1,fun x hx=>?_⟩;rcases List.mem_or_eq_of_mem_set hx with hx|rfl
  ·exact hbox.2.2.2 x hx
  ·exact⟨rfl,trivial⟩
 have h1:RelR F R0 w0 ob R ⟨n,env,own.set id (.box blk ty (cs.set j (.os own.length none 0 0)))⟩ a w:=by
  refine⟨hr.defers,hr.env,hr.size,?_,?_,hr.evo,hr.inv,hr.obM,?_,hr.obw,hr.rr,hr.r0⟩
  ·intro i x hx;rw[List.getElem?_set] at hx;split at hx
   ·simp only[hidl,if_true,Option.some.injEq] at hx;subst hx;exact hok
   ·exact hr.own i x hx
  ·intro i k x y hik hx hy b hb1 hb2;rw[List.getElem?_set] at hx hy;split at hx<;>split at hy
   ·omega
   ·rename_i e1 _;subst e1;simp only[hidl,if_true,Option.some.injEq] at hx;subst hx;exact hr.dist id k _ y hik hl hy b hb1 hb2
   ·rename_i _ e1;subst e1;simp only[hidl,if_true,Option.some.injEq] at hy;subst hy;exact hr.dist i id x _ hik hx hl b hb1 hb2
   ·exact hr.dist i k x y hik hx hy b hb1 hb2
  ·exact gb_set (m:=w0.w.heap.size) (Nat.le_refl _) hr.gb hl fun b hb=>.inl hb
 exact h1.newRow (o:=.row none e 0 0 sz rd) (w':=w) (grown_refl w none) (fun b hb=>by cases hb) ⟨by simpa [cellsOf] using World.ownsRow_nil w _ e sz,(fun g hg=>by cases hg),(fun i j hi=>absurd hi (Nat.not_lt_zero _))⟩
theorem SatJ.code {rd:Option Nat} {ds:List Deferred} {st:St} {c c':Code} {K:Exit→List Deferred→St→Prop} (h:c'=c) (hs:SatJ P F rd c' ds st K):SatJ P F rd c ds st K:=h ▸ hs
theorem own_le (o:Own):o.le o:=by cases o<;>simp [Own.le,rdEq,fnEq,mqEq]
end
end Eng
end

section
namespace Eng
theorem cellsOf_den {len sz:Nat} {rd rd':Nat→Nat→SV} (h:∀ i j,i<len→j<sz→(rd i j).den=(rd' i j).den):cellsOf len sz rd=cellsOf len sz rd':=by
 unfold cellsOf;apply List.map_congr_left;intro q hq;have hq':q<len * sz:=by simpa using hq
 have hz:0<sz:=by
  rcases Nat.eq_zero_or_pos sz with h0|h0
  ·subst h0;simp at hq'
  ·exact h0
 exact h _ _ ((Nat.div_lt_iff_lt_mul hz).2 hq') (Nat.mod_lt _ hz)
theorem Sat.settleCell {P:Program} {F:Frm} {n:Nat} {env:List (Nat×SV)} {own:List Own} {c:Code} {K:Exit→St→Prop} (id id2:Nat) {ad a2:Option Addr} {e len cap sz e2 len2 cap2 sz2:Nat} {rd rd2:Nat→Nat→SV} (rd':Nat→Nat→SV)
  (hid:own[id]? = some (.row ad e len cap sz rd)) (h2:own[id2]? = some (.row a2 e2 len2 cap2 sz2 rd2)) (hne:id2≠id)
  (hs:∀ i j,i<len→j<sz→sim (rd i j) (rd' i j)∨(rd i j=.os id2 a2 len2 cap2∧rd' i j=.sl a2 len2 cap2 sz2 rd2))
  (h:Sat P F c ⟨n,env,(own.set id2 (.frz a2 len2 cap2 sz2 rd2)).set id (.row ad e len cap sz rd')⟩ K):Sat P F c ⟨n,env,own⟩ K:=by
 rintro R0 w0 a w ⟨ob,R0',hr0⟩;have hf:frz own [.os id2 a2 len2 cap2]=own.set id2 (.frz a2 len2 cap2 sz2 rd2):=by simp [frz,frzOne,h2]
 have hlt2:id2<own.length:=(List.getElem?_eq_some_iff.1 h2).1;obtain⟨R,hRR,hr⟩:=hr0.frz [.os id2 a2 len2 cap2];rw[hf] at hr;have hid':(own.set id2 (.frz a2 len2 cap2 sz2 rd2))[id]? = some (.row ad e len cap sz rd):=by rw[List.getElem?_set_ne hne];exact hid
 have h2':(own.set id2 (.frz a2 len2 cap2 sz2 rd2))[id2]? = some (.frz a2 len2 cap2 sz2 rd2):=by rw[List.getElem?_set_self hlt2]
 have hfz:(SV.sl a2 len2 cap2 sz2 rd2).ok R w:=hr.own id2 _ h2';clear hr0 hf h2 hid;generalize own.set id2 (.frz a2 len2 cap2 sz2 rd2)=own at *
 have hden:∀ i j,i<len→j<sz→(rd i j).den=(rd' i j).den:=fun i j hi hj=>by
  rcases hs i j hi hj with h9|⟨h8,h9⟩
  ·exact h9.1
  ·rw[h8,h9];rfl
 refine h R0 w0 a w ⟨ob,R,?_⟩;have hidl:id<own.length:=(List.getElem?_eq_some_iff.1 hid').1;have hblk:(Own.row ad e len cap sz rd').blk=(Own.row ad e len cap sz rd).blk:=by cases ad<;>rfl
 have hrow:=hr.own _ _ hid';have hcells:cellsOf len sz rd=cellsOf len sz rd':=cellsOf_den hden
 have hok:(Own.row ad e len cap sz rd').ok R ob w:=⟨by rw[← hcells];exact hrow.1,hrow.2.1,fun i j hi hj=>by
  have h1:=hrow.2.2 i j hi hj;rcases hs i j hi hj with h9|⟨h8,h9⟩
  ·exact⟨by rw[← h9.1];exact h1.1,h9.2 R w h1.2⟩
  ·rw[h9]
   exact⟨rfl,hfz⟩⟩
 refine⟨hr.defers,hr.env,hr.size,?_,?_,hr.evo,hr.inv,hr.obM,?_,hr.obw,hr.rr,hr.r0⟩
 ·intro i x hx;rw[List.getElem?_set] at hx;split at hx
  ·simp only[hidl,if_true,Option.some.injEq] at hx;subst hx;exact hok
  ·exact hr.own i x hx
 ·intro i j x y hij hx hy b hb1 hb2;rw[List.getElem?_set] at hx hy;split at hx<;>split at hy
  ·omega
  ·rename_i e1 _;subst e1;simp only[hidl,if_true,Option.some.injEq] at hx;subst hx;exact hr.dist id j _ y hij hid' hy b (hblk ▸ hb1) hb2
  ·rename_i _ e1;subst e1;simp only[hidl,if_true,Option.some.injEq] at hy;subst hy;exact hr.dist i id x _ hij hx hid' b hb1 (hblk ▸ hb2)
  ·exact hr.dist i j x y hij hx hy b hb1 hb2
 ·exact gb_set (m:=w0.w.heap.size) (Nat.le_refl _) hr.gb hid' fun b hb=>.inl (hblk ▸ hb)
end Eng
end

section
namespace Eng
theorem Q9 {P:Program} {F:Frm} {n:Nat} {env:List (Nat×SV)} {own:List Own} {c:Code} {K:Exit→St→Prop} (t:Nat) {id blk ty:Nat} {cs:List SV} (hl:look env t=some (.op id blk 0)) (ho:own[id]? = some (.box blk ty cs))
  (h:Sat P F c ⟨n,(t,.el ⟨blk,0,none⟩ cs.length fun j=>cs.getD j default) :: env,own.set id .gone⟩ K):Sat P F c ⟨n,env,own⟩ K:=by
 rintro R0 w0 a w ⟨ob,R,hr⟩;have hidl:id<own.length:=(List.getElem?_eq_some_iff.1 ho).1;have hob:=hr.own id _ ho;obtain⟨b1,b2,b3,b4⟩:=hob;have hblt:blk<w.heap.size:=(Array.getElem?_eq_some_iff.1 b3).1
 have hr':RelR F R0 w0 ob (fun b=>R b∨b=blk) ⟨n,env,own.set id .gone⟩ a w:=by
  refine hr.turn (fun _=>False) rfl rfl rfl (Nat.le_refl _) (fun _ h=>h.elim) (fun _ _ _=>rfl) (fun _ h=>.inl h) (fun b hb=>?_) ?_ ?_ (gb_set hr.evo.size hr.gb ho fun b hb=>by cases hb)
  ·rcases hb with hb|rfl
   ·exact .inl hb
   ·exact .inr ⟨b1,hblt,hr.gb id _ ho b rfl⟩
  ·intro i x hx;rw[List.getElem?_set] at hx;split at hx
   ·rename_i e';subst e';simp only[hidl,if_true,Option.some.injEq] at hx;subst hx;trivial
   ·rename_i hne;refine Zy (hr.own i x hx) (fun _ h=>.inl h) (fun b hbx hb=>?_) (fun _ _=>rfl) (fun _ _=>rfl);rcases hb with hb|rfl
    ·exact hb
    ·exact absurd hbx (hr.dist id i _ x hne ho hx b rfl)
  ·intro i j o1 o2 hij h1 h2 b hb1 hb2;rw[List.getElem?_set] at h1 h2;split at h1<;>split at h2
   ·omega
   ·rename_i e' hne;subst e';simp only[hidl,if_true,Option.some.injEq] at h1;subst h1;cases hb1
   ·rename_i hne e';subst e';simp only[hidl,if_true,Option.some.injEq] at h2;subst h2;cases hb2
   ·exact hr.dist i j o1 o2 hij h1 h2 b hb1 hb2
 refine h R0 w0 a w ⟨ob,_,hr'.defers,?_,hr'.size,hr'.own,hr'.dist,hr'.evo,hr'.inv,hr'.obM,hr'.gb,hr'.obw,hr'.rr,hr'.r0⟩;intro u s hu;simp only[look] at hu;split at hu
 ·rename_i e;simp only[Option.some.injEq] at hu;subst hu;subst e;refine⟨(hr'.env t _ hl).1,blk,0,rfl,.inr rfl,fun j hj=>?_⟩;have hm:cs.getD j default∈cs:=Q3 hj;refine⟨?_,(b4 _ hm).1,QD (fun _ h=>.inl h) (fun _ _=>rfl) _ (b4 _ hm).2⟩;rw[cell_of_row w blk _ _ _ _ b3];simp [List.getD,hj]
 ·exact hr'.env u s hu
end Eng
end

section
namespace Eng
variable {P:Program} {F:Frm} {n:Nat} {env:List (Nat×SV)} {own:List Own} {c:Code} {K:Exit→St→Prop}
theorem Xr {own':List Own} (f:Nat→Nat) (h1:∀ i o,own'[i]? = some o→o=.gone∨own[f i]? = some o)
  (h2:∀ i j o o',i≠j→own'[i]? = some o→own'[j]? = some o'→o≠.gone→o'≠.gone→f i≠f j) (h:Sat P F c ⟨n,env,own'⟩ K):Sat P F c ⟨n,env,own⟩ K:=by
 rintro R0 w0 a w ⟨ob,R,hr⟩;refine h R0 w0 a w ⟨ob,R,hr.defers,hr.env,hr.size,?_,?_,hr.evo,hr.inv,hr.obM,?_,hr.obw,hr.rr,hr.r0⟩
 ·intro i o ho;rcases h1 i o ho with rfl|h9
  ·trivial
  ·exact hr.own _ _ h9
 ·intro i j o o' hij ho ho' b hb hb';have g1:o≠.gone:=fun e=>by subst e;cases hb
  have g2:o'≠.gone:=fun e=>by subst e;cases hb'
  rcases h1 i o ho with e|h8
  ·exact g1 e
  rcases h1 j o' ho' with e|h9
  ·exact g2 e
  exact hr.dist (f i) (f j) o o' (h2 i j o o' hij ho ho' g1 g2) h8 h9 b hb hb'
 ·intro i o ho b hb;rcases h1 i o ho with rfl|h9
  ·cases hb
  ·exact hr.gb _ _ h9 b hb
theorem Sat.cutOwn (L:List Own) {X:List Own} (h:Sat P F c ⟨n,env,L⟩ K):Sat P F c ⟨n,env,L ++ X⟩ K:=
 Xr id (fun i o ho=>.inr (by
  have:=(List.getElem?_eq_some_iff.1 ho).1;rw[id,List.getElem?_append_left this]
  exact ho)) (fun i j _ _ hij _ _ _ _=>hij) h
theorem Sat.pull {m r:Own} {T:List Own} (i:Nat) (hi:T[i]? = some r) (h:Sat P F c ⟨n,env,r :: m :: T.set i .gone⟩ K):Sat P F c ⟨n,env,.gone :: m :: T⟩ K:=by
 refine Xr (fun j=>if j=0 then i+2 else j) (fun j o ho=>?_) (fun j k o o' hjk ho ho' g1 g2=>?_) h
 ·match j,ho with
  | 0,ho=>simp only[List.getElem?_cons_zero,Option.some.injEq] at ho;subst ho;exact .inr (by simpa using hi)
  | 1,ho=>exact .inr (by simpa using ho)
  | j+2,ho=>
   simp only[List.getElem?_cons_succ] at ho;rw[List.getElem?_set] at ho;split at ho
   ·split at ho
    ·exact .inl (Option.some.inj ho).symm
    ·cases ho
   ·exact .inr (by simpa using ho)
 ·have key:∀ j k o,j≠k→(r :: m :: T.set i Own.gone)[k]? = some o→o≠.gone→(if j=0 then i+2 else j)≠(if k=0 then i+2 else k)∨j≠0:=fun j k o hjk ho g=>by
   by_cases hj:j=0
   ·left;subst hj;simp only[if_true];rw[if_neg (Ne.symm hjk)];rintro rfl;simp only[List.getElem?_cons_succ] at ho;rw[List.getElem?_set] at ho;simp only[if_true] at ho;split at ho
    ·exact g (Option.some.inj ho).symm
    ·cases ho
   ·exact .inr hj
  rcases key j k o' hjk ho' g2 with h9|h9
  ·exact h9
  ·rcases key k j o (Ne.symm hjk) ho g1 with h8|h8
   ·exact Ne.symm h8
   ·simp only[h9,h8,if_false];exact hjk
theorem Sat.push {m r:Own} {T:List Own} (i:Nat) (hi:T[i]? = some .gone) (h:Sat P F c ⟨n,env,.gone :: m :: T.set i r⟩ K):Sat P F c ⟨n,env,r :: m :: T⟩ K:=by
 have hlt:=(List.getElem?_eq_some_iff.1 hi).1;refine Xr (fun j=>if j=i+2 then 0 else j) (fun j o ho=>?_) (fun j k o o' hjk ho ho' g1 g2=>?_) h
 ·match j,ho with
  | 0,ho=>simp only[List.getElem?_cons_zero,Option.some.injEq] at ho;exact .inl ho.symm
  | 1,ho=>
   refine .inr ?_;rw[if_neg (by omega)]
   simpa using ho
  | j+2,ho=>
   simp only[List.getElem?_cons_succ] at ho;rw[List.getElem?_set] at ho;split at ho
   ·rename_i e;subst e;simp only[hlt,if_true,Option.some.injEq] at ho;subst ho;exact .inr (by simp)
   ·rename_i hne;refine .inr ?_;rw[if_neg (by omega)]
    simpa using ho
 ·have j0:j≠0:=fun e=>by subst e;simp only[List.getElem?_cons_zero,Option.some.injEq] at ho;exact g1 ho.symm
  have k0:k≠0:=fun e=>by subst e;simp only[List.getElem?_cons_zero,Option.some.injEq] at ho';exact g2 ho'.symm
  split<;>split<;>omega
theorem Sat.pushNew {m r:Own} {T:List Own} (h:Sat P F c ⟨n,env,.gone :: m :: (T ++ [r])⟩ K):Sat P F c ⟨n,env,r :: m :: T⟩ K:=by
 refine Xr (fun j=>if j=T.length+2 then 0 else j) (fun j o ho=>?_) (fun j k o o' hjk ho ho' g1 g2=>?_) h
 ·match j,ho with
  | 0,ho=>simp only[List.getElem?_cons_zero,Option.some.injEq] at ho;exact .inl ho.symm
  | 1,ho=>
   refine .inr ?_;rw[if_neg (by omega)]
   simpa using ho
  | j+2,ho=>
   simp only[List.getElem?_cons_succ] at ho;have hlt:=(List.getElem?_eq_some_iff.1 ho).1;simp only[List.length_append,List.length_singleton] at hlt;by_cases e:j=T.length
   ·subst e;rw[List.getElem?_concat_length,Option.some.injEq] at ho;subst ho;exact .inr (by simp)
   ·refine .inr ?_;rw[if_neg (by omega)];rw[List.getElem?_append_left (by omega)] at ho
    simpa using ho
 ·have j0:j≠0:=fun e=>by subst e;simp only[List.getElem?_cons_zero,Option.some.injEq] at ho;exact g1 ho.symm
  have k0:k≠0:=fun e=>by subst e;simp only[List.getElem?_cons_zero,Option.some.injEq] at ho';exact g2 ho'.symm
  split<;>split<;>omega
theorem Sat.nilAt (id:Nat) (e sz:Nat) (rd:Nat→Nat→SV) (hid:own[id]? = some .gone) (h:Sat P F c ⟨n,env,own.set id (.row none e 0 0 sz rd)⟩ K):Sat P F c ⟨n,env,own⟩ K:=by
 rintro R0 w0 a w ⟨ob,R,hr⟩;have hlt:=(List.getElem?_eq_some_iff.1 hid).1;refine h R0 w0 a w ⟨ob,R,hr.defers,hr.env,hr.size,?_,?_,hr.evo,hr.inv,hr.obM,?_,hr.obw,hr.rr,hr.r0⟩
 ·intro i o ho;rw[List.getElem?_set] at ho;split at ho
  ·simp only[hlt,if_true,Option.some.injEq] at ho;subst ho;exact⟨by simpa [cellsOf] using World.ownsRow_nil w _ e sz,(fun g hg=>by cases hg),(fun i j hi=>absurd hi (Nat.not_lt_zero _))⟩
  ·exact hr.own i o ho
 ·intro i j o o' hij ho ho' b hb hb';rw[List.getElem?_set] at ho ho';split at ho
  ·simp only[hlt,if_true,Option.some.injEq] at ho;subst ho;cases hb
  ·split at ho'
   ·simp only[hlt,if_true,Option.some.injEq] at ho';subst ho';cases hb'
   ·exact hr.dist i j o o' hij ho ho' b hb hb'
 ·intro i o ho b hb;rw[List.getElem?_set] at ho;split at ho
  ·simp only[hlt,if_true,Option.some.injEq] at ho;subst ho;cases hb
  ·exact hr.gb i o ho b hb
theorem Sat.redo (t:Nat) {s:SV} (s':SV) (hl:look env t=some s) (hd:s'.den=s.den) (hs:∀ R w,s'.ok R w) (h:Sat P F c ⟨n,(t,s') :: env,own⟩ K):Sat P F c ⟨n,env,own⟩ K:=by
 rintro R0 w0 a w ⟨ob,R,hr⟩;refine h R0 w0 a w ⟨ob,R,?_⟩;exact hr.know hl hd (fun w=>hs R w)
theorem Qs (L:List Own) (t:Nat) {blk ty:Nat} {cs:List SV} (hl:look env t=some (.op L.length blk 0)) (h:Sat P F c ⟨n,(t,.el ⟨blk,0,none⟩ cs.length fun j=>cs.getD j default) :: env,L⟩ K):Sat P F c ⟨n,env,L ++ [.box blk ty cs]⟩ K:=
 Q9 t hl (by rw[List.getElem?_concat_length]) (by
  have e:(L ++ [Own.box blk ty cs]).set L.length .gone=L ++ [.gone]:=by rw[List.set_append_right _ _ (Nat.le_refl _),Nat.sub_self];rfl
  rw[e]
  exact Sat.cutOwn L h)
theorem QQ (L:List Own) (t:Nat) {e len cap sz:Nat} {a:Option Addr} {rd:Nat→Nat→SV} (hl:look env t=some (.os L.length a len cap)) (h:Sat P F c ⟨n,(t,.sl a len cap sz rd) :: env,L⟩ K):Sat P F c ⟨n,env,L ++ [.row a e len cap sz rd]⟩ K:=
 Zo t hl (by rw[List.getElem?_concat_length]) (by
  have e:(L ++ [Own.row a e len cap sz rd]).set L.length (.frz a len cap sz rd)=L ++ [.frz a len cap sz rd]:=by rw[List.set_append_right _ _ (Nat.le_refl _),Nat.sub_self];rfl
  rw[e]
  exact Sat.cutOwn L h)
theorem own_refl (o:Own):o.le o:=by cases o<;>simp [Own.le,rdEq,fnEq,mqEq]
theorem QU:∀ l:List Own,ownLe l l
 | []=>trivial
 | o :: l=>⟨own_refl o,QU l⟩
theorem Sat.leOwn {own':List Own} (hle:ownLe own own') (h:Sat P F c ⟨n,env,own'⟩ K):Sat P F c ⟨n,env,own⟩ K:=by
 rintro R0 w0 a w ⟨ob,R,hr⟩;refine h R0 w0 a w ⟨ob,R,hr.defers,hr.env,hr.size,?_,?_,hr.evo,hr.inv,hr.obM,?_,hr.obw,hr.rr,hr.r0⟩
 ·intro i p hp;obtain⟨o,h1,h2⟩:=XL hle i p hp;exact (Own.ok_le (hr.own i o h1) h2).1
 ·intro i j o1 o2 hij h1 h2 b hb1 hb2;obtain⟨p1,g1,l1⟩:=XL hle i o1 h1;obtain⟨p2,g2,l2⟩:=XL hle j o2 h2;exact hr.dist i j p1 p2 hij g1 g2 b ((Own.ok_le (hr.own i p1 g1) l1).2 b hb1) ((Own.ok_le (hr.own j p2 g2) l2).2 b hb2)
 ·intro i p hp b hb;obtain⟨o,h1,h2⟩:=XL hle i p hp;exact hr.gb i o h1 b ((Own.ok_le (hr.own i o h1) h2).2 b hb)
theorem ownLe_app:∀ l X:List Own,ownLe (l ++ X) l
 | [],X=>by cases X<;>trivial
 | o :: l,X=>⟨own_refl o,ownLe_app l X⟩
theorem Zg {st:St} {K:Exit→St→Prop} {c y:Code} {ι:Type} (sh:ι→St) (J:ι→Prop) (h:(∀ z,J z→Sat P F y (sh z) K)→Sat P F c st (Qf (fun st'=>Sat P F y st' K) K)) (h2:∀ z,J z→Sat P F y (sh z) K) :
  Sat P F c st (Qf (fun st'=>Sat P F y st' K) K):=h h2
end Eng
end

section
namespace Eng
section
variable {P:Program} {F:Frm}
end
end Eng
end

section
namespace Eng
def blks (os:List Own) (b:Nat):Prop:=∃ (i:Nat) (o:Own),os[i]? = some o∧o.blk=some b
def Dist (os:List Own):Prop:=∀ (i j:Nat) (o o':Own),i≠j→os[i]? = some o→os[j]? = some o'→∀ b,o.blk=some b→o'.blk≠some b
structure ContractL (F:Frm) (P:Program) (f:FuncId) (args:List SV) (os0:List Own) (post:SV→List Own→Prop):Prop where
 enters:∀ vs w,(callFunc f vs).run P w=.ok (.enter f vs) w
 calls:∀ (R:Nat→Prop) (w:World) (ob:Nat),F.Inv w→(∀ b,F.L b→b<ob)→ob≤w.heap.size→OwnsOk R ob os0 w→Dist os0→(∀ s∈args,s.ok R w)→(∀ b,R b→b<w.heap.size∧¬ F.M b) →
  Calls P f (args.map SV.den).toArray w fun e w'=>∃ (r:SV) (os1:List Own) (R':Nat→Prop),e=.returned r.den∧post r os1∧os0.length≤os1.length∧(∀ b,R b→R' b)∧(∀ b,R' b→b<w'.heap.size∧(R b∨w.heap.size≤b∨blks os0 b))∧r.ok R' w' ∧
   (∀ b,blks os1 b→w.heap.size≤b∨blks os0 b)∧OwnsOk R' ob os1 w'∧Dist os1∧Evo (fun b=>F.M b∨blks os0 b) w w'∧F.Inv w'
theorem ContractL.mono {F:Frm} {P:Program} {f:FuncId} {args:List SV} {os0:List Own} {post post':SV→List Own→Prop} (h:ContractL F P f args os0 post) (hp:∀ r os,post r os→post' r os):ContractL F P f args os0 post':=
 ⟨h.enters,fun R w ob h1 h2 h3 h4 h5 h6 h7=>(h.calls R w ob h1 h2 h3 h4 h5 h6 h7).mono fun e w' ⟨r,os1,R',a,b,c⟩=>⟨r,os1,R',a,hp _ _ b,c⟩⟩
def lf (own:List Own) (s:SV):SV:=match s with
 | .os id a len cap=>(match own[id]? with|some (.row _ _ _ _ _ _)=>.os id a len cap|_=>roSl own (.os id a len cap))
 | .tt=>.b true
 | .ff=>.b false
 | s=>s
def lfA (own:List Own) (s:SV):SV:=match s with
 | .agg n rd=>.agg n fun j=>lf own (rd j)
 | s=>lf own s
def resL (own:List Own):List SV→SV
 | [s]=>lfA own s
 | l=>.tup l.length fun j=>lfA own (l.getD j default)
section
variable {R:Nat→Prop} {B:Nat} {w:World} {own:List Own}
theorem lf_ok (ho:OwnsOk R B own w) {s:SV} (hs:s.ok R w):(lf own s).den=s.den∧(lf own s).ok R w:=by
 cases s with
 | os id a len cap=>
  simp only[lf]
  have read:(∀ a' e len' cap' sz rd,own[id]?≠some (.row a' e len' cap' sz rd))→(roSl own (.os id a len cap)).den=(SV.os id a len cap).den∧(roSl own (.os id a len cap)).ok R w:=by
   intro hn;unfold roSl asAny;try simp only[]
   cases h1:own[id]? with
   | none=>
    try simp only[]
    unfold XB;simp only[h1];first|exact⟨rfl,trivial⟩|exact⟨trivial,trivial⟩|trivial
   | some o=>
    cases o with
    | row a' e l' c' z' rd'=>exact absurd h1 (hn _ _ _ _ _ _)
    | _=>
     try simp only[]
     cases hr:XB own (.os id a len cap) with
     | none=>exact⟨rfl,trivial⟩
     | some p=>
      obtain⟨a2,len2,cap2,sz2,rd2⟩:=p;have h9:asAny own (.os id a len cap)=some (a2,len2,cap2,sz2,rd2):=by unfold asAny;simp only[h1];exact hr
      exact⟨(asAny_cells (st:=⟨0,[],own⟩) h9 ho hs).1.symm,(asRead_ok (st:=⟨0,[],own⟩) hr ho hs).2⟩
  split
  ·exact⟨rfl,trivial⟩
  ·rename_i hn;exact read fun a' e l' c' z' rd' h=>hn a' e l' c' z' rd' h
 | tt=>exact⟨rfl,trivial⟩
 | ff=>exact⟨rfl,trivial⟩
 | _=>exact⟨rfl,hs⟩
theorem lfA_ok (ho:OwnsOk R B own w) {s:SV} (hs:s.ok R w):(lfA own s).den=s.den∧(lfA own s).ok R w:=by
 cases s with
 | agg n rd=>
  refine⟨?_,fun j hj=>(lf_ok ho (hs j hj)).2⟩;simp only[lfA,SV.den]
  congr 2
  exact List.map_congr_left fun j hj=>(lf_ok ho (hs j (List.mem_range.1 hj))).1
 | _=>exact lf_ok ho hs
end
def retLK (n:Nat) (st:St) (post:SV→List Own→Prop) (l:List SV):Prop:=∃ os1 tl,st.own=os1 ++ tl∧n≤os1.length∧post (resL st.own l) os1
def retL (P:Program) (rs:List ResultVar) (n:Nat) (post:SV→List Own→Prop):Exit→St→Prop
 | .normal,st=>ZL P st rs (retLK n st post)
 | .ret,st=>ZL P st rs (retLK n st post)
 | _,_=>False
theorem contractL_of {P:Program} {F:Frm} {f:FuncId} {fn:Func} {c:Code} {args:List SV} {os0:List Own} {post:SV→List Own→Prop} (hf:P.funcs[f]? = some fn) (hb:fn.body=some c) (hname:(fn.name == "runtime.NumGoroutine")=false)
  (h:Sat P F c ⟨fn.ntmps,Qt 0 args,os0⟩ (retL P fn.results.toList os0.length post)):ContractL F P f args os0 post:=by
 refine⟨fun vs w=>?_,fun R w ob hinv hobM hobw ho0 hd0 hargs hR=>?_⟩
 ·have hn:¬ fn.name = "runtime.NumGoroutine" := by simpa using hname
  simp [callFunc,hf,hn,hb]
 ·refine calls_of_wp hf hb ?_
  have hrel:RelR F R ⟨w,blks os0⟩ ob R ⟨fn.ntmps,Qt 0 args,os0⟩ { tmps:=(args.map SV.den).toArray ++ Array.replicate (fn.ntmps - (args.map SV.den).toArray.size) undef,defers:=[] } w:=by
   refine⟨rfl,?_,?_,ho0,hd0,Evo.refl _ _,hinv,hobM,fun i o ho b hb=>.inr ⟨i,o,ho,hb⟩,hobw,fun b hb=>⟨(hR b hb).1,(hR b hb).2,.inl hb⟩,fun _ h=>h⟩
   ·intro t s ht;obtain⟨j,rfl,hj⟩:=look_argEnv args 0 t s ht;have hlt:=(List.getElem?_eq_some_iff.1 hj).1;refine⟨?_,hargs s (List.mem_of_getElem? hj)⟩;rw[Nat.zero_add,Array.getElem?_append_left (by simpa using hlt)];simp [hj]
   ·simp;omega
  refine wp_mono (h R ⟨w,blks os0⟩ _ w ⟨_,R,hrel⟩) ?_;have fin:∀ a' w' st',ZL P st' fn.results.toList (retLK os0.length st' post)→Rel F R ⟨w,blks os0⟩ st' a' w'→a'.defers=[]∧∃ v,(results fn a'.tmps).run P w'=.ok v w' ∧
    (fun e w'=>∃ (r:SV) (os1:List Own) (R':Nat→Prop),e=Ending.returned r.den∧post r os1∧os0.length≤os1.length∧(∀ b,R b→R' b)∧(∀ b,R' b→b<w'.heap.size∧(R b∨w.heap.size≤b∨blks os0 b))∧r.ok R' w' ∧
     (∀ b,blks os1 b→w.heap.size≤b∨blks os0 b)∧OwnsOk R' ob os1 w'∧Dist os1∧Evo (fun b=>F.M b∨blks os0 b) w w'∧F.Inv w') (.returned v) w':=by
   rintro a' w' st' hres ⟨ob',R',hr'⟩;obtain⟨l,⟨os1,tl,hown',hlen,hpost⟩,hlok,hrun⟩:=resHolds_ok hr' hres
   have hmA:∀ (g:ResultVar→Sem Value),(fn.results.toList.mapM g).run P w'=.ok (l.map SV.den) w'→(fn.results.mapM g).run P w'=.ok (l.map SV.den).toArray w':=by
    intro g hg;rw[Array.mapM_eq_mapM_toList];simp only[Sem.run_map,hg,Result.andThen_ok]
   have hpre:∀ (i:Nat) (o:Own),os1[i]? = some o→st'.own[i]? = some o:=fun i o ho=>by
    rw[hown',List.getElem?_append_left (List.getElem?_eq_some_iff.1 ho).1];exact ho
   have hbl:∀ b,blks os1 b→w.heap.size≤b∨blks os0 b:=fun b ⟨i,o,ho,hb⟩=>hr'.gb i o (hpre i o ho) b hb
   have hge:∀ b,w.heap.size≤b∨blks os0 b→ob≤b:=fun b hb=>by
    rcases hb with hb|⟨i,o,ho,hb⟩
    ·omega
    ·exact (Qw (ho0 i o ho) hb).1
   refine⟨hr'.defers,(resL st'.own l).den,?_,resL st'.own l,os1,R',rfl,hpost,hlen,hr'.r0,fun b hb=>⟨(hr'.rr b hb).1,(hr'.rr b hb).2.2⟩,?_,hbl,fun i o ho=>Own.rebase (hr'.own i o (hpre i o ho)) (fun b hb=>hge b (hbl b ⟨i,o,ho,hb⟩)),fun i j o o' hij ho ho'=>hr'.dist i j o o' hij (hpre i o ho) (hpre j o' ho'),hr'.evo,hr'.inv⟩
   ·unfold results;rw[Sem.run_bind];show ((fn.results.mapM (resRun a'.tmps)).run P w').andThen _=_;rw[hmA _ hrun];simp only[Result.andThen_ok,Sem.run_pure,Result.ok.injEq,and_true]
    match l,hlok with
    | [s],hlok=>simp [resL,(lfA_ok hr'.own (hlok s List.mem_cons_self)).1]
    | [],_=>simp [resL,SV.den]
    | s :: t :: rest,hlok=>
     simp only[resL,SV.den,List.map_cons,List.size_toArray,List.length_cons,List.length_map];rw[dif_neg (by omega)]
     congr 1
     apply Array.ext';apply List.ext_getElem?;intro j;simp only[List.getElem?_map];by_cases hj:j<rest.length+1+1
     ·rw[List.getElem?_range hj];have hj':j<(s :: t :: rest).length:=by simpa using hj
      have e1:(s.den :: t.den :: rest.map SV.den)=(s :: t :: rest).map SV.den:=rfl;rw[e1,List.getElem?_map,getD_get hj' (d:=default),Option.map_some,Option.map_some]
      congr 1
      exact (lfA_ok hr'.own (hlok _ (Q3 hj'))).1.symm
     ·rw[List.getElem?_eq_none (by simp;omega),List.getElem?_eq_none (by simp;omega)];rfl
   ·match l,hlok with
    | [s],hlok=>exact (lfA_ok hr'.own (hlok s List.mem_cons_self)).2
    | [],_=>intro j hj;simp at hj
    | s :: t :: rest,hlok=>
     intro j hj;have hj':j<(s :: t :: rest).length:=by simpa using hj
     exact (lfA_ok hr'.own (hlok _ (Q3 hj'))).2
  rintro e a' w' ⟨st',hk,hr⟩;cases e with
  | normal=>exact fin a' w' st' hk hr
  | ret=>exact fin a' w' st' hk hr
  | _=>exact hk.elim
/-! ### At the caller -/
def idx:List Nat→Nat→Option Nat
 | [],_=>none
 | x :: xs,i=>if x=i then some 0 else (idx xs i).map (·+1)
theorem idx_some:∀ {ids:List Nat} {i k:Nat},idx ids i=some k→ids[k]? = some i
 | [],i,k,h=>by cases h
 | x :: xs,i,k,h=>by
  simp only[idx] at h;split at h
  ·rename_i e;simp only[Option.some.injEq] at h;subst h;simp [e]
  ·cases h2:idx xs i with
   | none=>rw[h2] at h;cases h
   | some k2=>
    rw[h2] at h;simp only[Option.map_some,Option.some.injEq] at h;subst h
    simpa using idx_some h2
theorem idx_none:∀ {ids:List Nat} {i:Nat},idx ids i=none→∀ k:Nat,ids[k]?≠some i
 | [],i,_,k=>by simp
 | x :: xs,i,h,k=>by
  simp only[idx] at h;split at h
  ·cases h
  ·rename_i hne;cases k with
   | zero=>simpa using hne
   | succ k=>
    simp only[List.getElem?_cons_succ];exact idx_none (by simpa using h) k
def toC (ids:List Nat) (m i:Nat):Nat:=if i<ids.length then ids.getD i 0 else m+(i - ids.length)
def renI (f:Nat→Nat):SV→SV
 | .os id a len cap=>.os (f id) a len cap
 | .oe id blk off ix j=>.oe (f id) blk off ix j
 | .op id blk off=>.op (f id) blk off
 | .ow id a sz off len cap=>.ow (f id) a sz off len cap
 | .mp id blk=>.mp (f id) blk
 | .wx id g sz off len cap=>.wx (f id) g sz off len cap
 | .agg n rd=>.agg n fun j=>renI f (rd j)
 | .tup n rd=>.tup n fun j=>renI f (rd j)
 | s=>s
theorem renI_den (f:Nat→Nat) (s:SV):(renI f s).den=s.den:=by
 induction s with
 | agg n rd ih=>simp only[renI,SV.den,ih]
 | tup n rd ih=>simp only[renI,SV.den,ih]
 | _=>rfl
theorem renI_ok {f:Nat→Nat} {R:Nat→Prop} {w:World} (s:SV):s.ok R w→(renI f s).ok R w:=by
 induction s with
 | agg n rd ih=>exact fun h j hj=>ih j (h j hj)
 | tup n rd ih=>exact fun h j hj=>ih j (h j hj)
 | os=>exact fun _=>trivial
 | oe=>exact fun _=>trivial
 | op=>exact fun _=>trivial
 | ow=>exact fun _=>trivial
 | mp=>exact fun _=>trivial
 | wx=>exact fun _=>trivial
 | _=>exact fun h=>h
def renO (f:Nat→Nat):Own→Own
 | .box blk ty cs=>.box blk ty (cs.map (renI f))
 | o=>o
theorem renO_blk (f:Nat→Nat) (o:Own):(renO f o).blk=o.blk:=by cases o<;>rfl
theorem renO_ok {f:Nat→Nat} {R:Nat→Prop} {B:Nat} {w:World} {o:Own} (h:o.ok R B w):(renO f o).ok R B w:=by
 cases o with
 | box blk ty cs=>
  obtain⟨h1,h2,h3,h4⟩:=h;refine⟨h1,h2,?_,fun c hc=>?_⟩
  ·rw[h3,List.map_map]
   congr 3
   exact List.map_congr_left fun c _=>(renI_den f c).symm
  ·obtain⟨c0,hc0,rfl⟩:=List.mem_map.1 hc;exact⟨by rw[renI_den];exact (h4 c0 hc0).1,renI_ok c0 (h4 c0 hc0).2⟩
 | _=>exact h
def toF (ids:List Nat) (i:Nat):Nat:=(idx ids i).getD i
def setA (ids:List Nat) (os:List Own):Nat→List Own→List Own
 | _,[]=>os.drop ids.length
 | i,o :: l=>(match idx ids i with|some k=>os.getD k o|none=>o) :: setA ids os (i+1) l
theorem setA_get (ids:List Nat) (os:List Own) (hl:ids.length≤os.length):∀ (own:List Own) (i j:Nat) (x:Own),(setA ids os i own)[j]? = some x →
  (∃ k,idx ids (i+j)=some k∧os[k]? = some x∧k<ids.length)∨(idx ids (i+j)=none∧own[j]? = some x)∨(own.length≤j∧os[ids.length+(j - own.length)]? = some x)
 | [],i,j,x,h=>by
  right;right;simp only[setA,List.getElem?_drop] at h;exact⟨Nat.zero_le _,by simpa using h⟩
 | o :: l,i,0,x,h=>by
  simp only[setA,List.getElem?_cons_zero,Option.some.injEq] at h;rw[Nat.add_zero];split at h
  ·rename_i k hk;have hlt:k<ids.length:=(List.getElem?_eq_some_iff.1 (idx_some hk)).1;refine .inl ⟨k,hk,?_,hlt⟩;rw[← h];simp [List.getD,List.getElem?_eq_getElem (show k<os.length by omega)]
  ·rename_i hk;exact .inr (.inl ⟨hk,by simp [h]⟩)
 | o :: l,i,j+1,x,h=>by
  simp only[setA,List.getElem?_cons_succ] at h;have:=setA_get ids os hl l (i+1) j x h;rw[show i+1+j=i+(j+1) by omega] at this;rcases this with h9|h9|⟨h8,h9⟩
  ·exact .inl h9
  ·exact .inr (.inl (by simpa using h9))
  ·exact .inr (.inr ⟨by simp;omega,by simpa using h9⟩)
def argL1 (own:List Own) (ids:List Nat) (s:SV):SV:=match s with
 | .os id a len cap=>(match idx ids id with|some k=>.os k a len cap|none=>lf own (.os id a len cap))
 | .op id blk off=>(match idx ids id with|some k=>.op k blk off|none=>.op id blk off)
 | .mp id blk=>(match idx ids id with|some k=>.mp k blk|none=>.mp id blk)
 | .ow id a sz off len cap=>(match idx ids id with|some k=>.ow k a sz off len cap|none=>.ow id a sz off len cap)
 | s=>lf own s
def argL (own:List Own) (ids:List Nat) (s:SV):SV:=match s with
 | .agg n rd=>.agg n fun j=>argL1 own ids (rd j)
 | .fn f n rd=>.fn f n fun j=>argL1 own ids (rd j)
 | s=>argL1 own ids s
theorem argL1_ok {R:Nat→Prop} {B:Nat} {w:World} {own:List Own} (ids:List Nat) (ho:OwnsOk R B own w) {s:SV} (hs:s.ok R w):(argL1 own ids s).den=s.den∧(argL1 own ids s).ok R w:=by
 cases s with
 | os id a len cap=>
  simp only[argL1];split
  ·exact⟨rfl,trivial⟩
  ·exact lf_ok ho hs
 | op id blk off=>simp only[argL1];split<;>exact⟨rfl,trivial⟩
 | mp id blk=>simp only[argL1];split<;>exact⟨rfl,trivial⟩
 | ow id a sz off len cap=>simp only[argL1];split<;>exact⟨rfl,trivial⟩
 | _=>exact lf_ok ho hs
theorem argL_ok {R:Nat→Prop} {B:Nat} {w:World} {own:List Own} (ids:List Nat) (ho:OwnsOk R B own w) {s:SV} (hs:s.ok R w):(argL own ids s).den=s.den∧(argL own ids s).ok R w:=by
 cases s with
 | agg n rd=>
  refine⟨?_,fun j hj=>(argL1_ok ids ho (hs j hj)).2⟩;simp only[argL,SV.den]
  congr 2
  exact List.map_congr_left fun j hj=>(argL1_ok ids ho (hs j (List.mem_range.1 hj))).1
 | fn f n rd=>
  refine⟨?_,fun j hj=>(argL1_ok ids ho (hs j hj)).2⟩;simp only[argL,SV.den]
  congr 2
  exact List.map_congr_left fun j hj=>(argL1_ok ids ho (hs j (List.mem_range.1 hj))).1
 | _=>exact argL1_ok ids ho hs
section
variable {P:Program} {F:Frm}
theorem callK_multi {st:St} {dst:Option Tmp} {k:St→Prop} {f:FuncId} {args:List SV} {post:SV→List Own→Prop} (fids:List SV) (ids:List Nat) {os0 own':List Own} (hown:frz st.own fids=own') (hnd:ids.Nodup) (hget:ids.map (fun i=>(own'[i]?).map (renO (toF ids)))=os0.map some)
  (h:ContractL F P f (args.map (argL own' ids)) os0 post)
  (hk:∀ r os1,post r os1→k (St.put { st with own:=setA ids (os1.map (renO (toC ids own'.length))) 0 own' } dst (renI (toC ids own'.length) r))):CallK P F f args st dst k:=by
 subst hown;intro R0 w0 ob R a w hr0 hargs0;refine⟨h.enters,?_⟩;obtain⟨R1,hm1,hr⟩:=hr0.frz fids;have hargs:∀ s∈args,s.ok R1 w:=fun s hs=>QD hm1 (fun _ _=>rfl) s (hargs0 s hs);clear hr0 hargs0;generalize hst1:({ st with own:=Eng.frz st.own fids }:St)=st1 at hr;have eown:Eng.frz st.own fids=st1.own:=by rw[← hst1]
 have en:st1.n=st.n:=by rw[← hst1]
 have hputs:∀ (o:List Own) (s:SV),St.put { st with own:=o } dst s=St.put { st1 with own:=o } dst s:=fun o s=>by rw[← hst1]
 rw[eown] at hget h hk;clear eown hst1;have hlen:ids.length=os0.length:=by simpa using congrArg List.length hget
 have hat:∀ (k i:Nat),ids[k]? = some i→∃ o,st1.own[i]? = some o∧os0[k]? = some (renO (toF ids) o):=fun k i hki=>by
  have:=congrArg (fun l:List (Option Own)=>l[k]?) hget;simp only[List.getElem?_map,hki,Option.map_some] at this;cases ho:os0[k]? with
  | none=>rw[ho] at this;cases this
  | some o=>
   rw[ho] at this;simp only[Option.map_some,Option.some.injEq] at this;obtain⟨o',h1,h2⟩:=Option.map_eq_some_iff.1 this;exact⟨o',h1,by rw[h2]⟩
 have hat':∀ (k:Nat) (o:Own),os0[k]? = some o→∃ i o2,ids[k]? = some i∧st1.own[i]? = some o2∧o=renO (toF ids) o2:=fun k o hko=>by
  have hlt:=(List.getElem?_eq_some_iff.1 hko).1;have h1:ids[k]? = some ids[k]:=List.getElem?_eq_getElem (by omega);obtain⟨o',h2,h3⟩:=hat k _ h1;rw[hko] at h3;cases h3
  exact⟨_,o',h1,h2,rfl⟩
 have hos0:OwnsOk R1 ob os0 w:=fun k o hko=>by
  obtain⟨i,o2,_,h2,rfl⟩:=hat' k o hko;exact renO_ok (hr.own i o2 h2)
 have hd0:Dist os0:=fun p q o o' hpq hp hq b hb=>by
  obtain⟨i,o2,h1,h2,rfl⟩:=hat' p o hp;obtain⟨j,o2',h3,h4,rfl⟩:=hat' q o' hq;rw[renO_blk] at hb ⊢;refine hr.dist i j o2 o2' (fun e=>hpq ?_) h2 h4 b hb;subst e;have hlt:=(List.getElem?_eq_some_iff.1 h1).1;exact (List.getElem?_inj hlt hnd).1 (h1.trans h3.symm)
 have hdenA:(args.map (argL st1.own ids)).map SV.den=args.map SV.den:=by
  rw[List.map_map];exact List.map_congr_left fun s hs=>(argL_ok ids hr.own (hargs s hs)).1
 have hc:=h.calls R1 w ob hr.inv hr.obM hr.obw hos0 hd0 (fun s' hs'=>by
  obtain⟨s,hs,rfl⟩:=List.mem_map.1 hs'
  exact (argL_ok ids hr.own (hargs s hs)).2) (fun b hb=>⟨(hr.rr b hb).1,(hr.rr b hb).2.1⟩)
 rw[hdenA] at hc;refine hc.mono ?_;rintro e w' ⟨r,os1,R',rfl,hpost,hl1,hRR,hR',hrok,hbl,ho1,hd1,hevo,hinv⟩;refine⟨renI (toC ids st1.own.length) r,{ st1 with own:=setA ids (os1.map (renO (toC ids st1.own.length))) 0 st1.own },R',by rw[renI_den],by rw[← hputs];exact hk r os1 hpost,renI_ok r hrok,?_,en⟩
 have hb0:∀ b,blks os0 b→∃ (i:Nat) (o:Own),st1.own[i]? = some o∧o.blk=some b∧∃ k,ids[k]? = some i:=fun b ⟨k,o,hko,hb⟩=>by
  obtain⟨i,o2,h1,h2,rfl⟩:=hat' k o hko;exact⟨i,o2,h2,by rwa [renO_blk] at hb,k,h1⟩
 have hb0lt:∀ b,blks os0 b→ob≤b∧b<w.heap.size∧¬ R1 b:=fun b hb=>by
  obtain⟨i,o,h1,h2,_⟩:=hb0 b hb;exact Qw (hr.own i o h1) h2
 have hRb:∀ b,R1 b→w'.heap[b]? = w.heap[b]? := fun b hb=>hevo.block b (hr.rr b hb).1 (fun hm=>by
  rcases hm with hm|hm
  ·exact (hr.rr b hb).2.1 hm
  ·exact (hb0lt b hm).2.2 hb)
 have hout:∀ (i:Nat) (o:Own),idx ids i=none→st1.own[i]? = some o→∀ b,o.blk=some b→¬ blks os0 b:=fun i o hi ho b hb h9=>by
  obtain⟨j,o',h1,h2,k,h3⟩:=hb0 b h9;have hne:i≠j:=fun e=>idx_none hi k (e ▸ h3);exact hr.dist i j o o' hne ho h1 b hb h2
 have hother:∀ (i:Nat) (o:Own),idx ids i=none→st1.own[i]? = some o→∀ b,o.blk=some b→w'.heap[b]? = w.heap[b]? := fun i o hi ho b hb=>by
  obtain⟨h1,h2,_⟩:=Qw (hr.own i o ho) hb
  exact hevo.block b h2 (fun hm=>by
   rcases hm with hm|hm
   ·have:=hr.ltM hm;omega
   ·exact hout i o hi ho b hb hm)
 have hsz:=hevo.size;have hobw:=hr.obw;have hw0:=hr.evo.size;have hone:∀ (j:Nat) (x:Own),(setA ids (os1.map (renO (toC ids st1.own.length))) 0 st1.own)[j]? = some x →
   (∃ q y,os1[q]? = some y∧x=renO (toC ids st1.own.length) y∧((idx ids j=some q∧q<ids.length)∨(st1.own.length≤j∧q=ids.length+(j - st1.own.length))))∨(idx ids j=none∧st1.own[j]? = some x):=fun j x hx=>by
  have:=setA_get ids (os1.map (renO (toC ids st1.own.length))) (by simp;omega) st1.own 0 j x hx;rw[Nat.zero_add] at this;rcases this with ⟨q,h1,h2,h3⟩|h9|⟨h1,h2⟩
  ·rw[List.getElem?_map] at h2;obtain⟨y,hy,rfl⟩:=Option.map_eq_some_iff.1 h2;exact .inl ⟨q,y,hy,rfl,.inl ⟨h1,h3⟩⟩
  ·exact .inr h9
  ·rw[List.getElem?_map] at h2;obtain⟨y,hy,rfl⟩:=Option.map_eq_some_iff.1 h2;exact .inl ⟨_,y,hy,rfl,.inr ⟨h1,rfl⟩⟩
 have hsep:∀ (j:Nat) (x:Own),idx ids j=none→st1.own[j]? = some x→∀ b,x.blk=some b→¬ blks os1 b:=fun j x hj hx b hb h9=>by
  rcases hbl b h9 with h8|h8
  ·have:=(Qw (hr.own j x hx) hb).2.1;omega
  ·exact hout j x hj hx b hb h8
 refine⟨hr.defers,fun t s ht=>⟨(hr.env t s ht).1,QD hRR hRb s (hr.env t s ht).2⟩,hr.size,?_,?_,?_,hinv,hr.obM,?_,Nat.le_trans hr.obw hevo.size,?_,fun b hb=>hRR b (hr.r0 b hb)⟩
 ·intro j x hx;rcases hone j x hx with ⟨q,y,hy,rfl,_⟩|⟨hj,hx⟩
  ·exact renO_ok (ho1 q y hy)
  ·refine Zy (hr.own j x hx) hRR (fun b hb hb'=>?_) hRb (hother j x hj hx);rcases (hR' b hb').2 with h9|h9|h9
   ·exact h9
   ·have:=(Qw (hr.own j x hx) hb).2.1;omega
   ·exact absurd h9 (hout j x hj hx b hb)
 ·intro i j x y hij hx hy b hb1 hb2;rcases hone i x hx with ⟨q,x',hx',rfl,hq⟩|⟨hi,hx⟩<;>rcases hone j y hy with ⟨p,y',hy',rfl,hp⟩|⟨hj,hy⟩
  ·rw[renO_blk] at hb1 hb2;refine hd1 q p x' y' (fun e=>hij ?_) hx' hy' b hb1 hb2;subst e;rcases hq with ⟨h1,h2⟩|⟨h1,h2⟩<;>rcases hp with ⟨h3,h4⟩|⟨h3,h4⟩
   ·have:=(idx_some h1).symm.trans (idx_some h3)
    simpa using this
   ·omega
   ·omega
   ·omega
  ·rw[renO_blk] at hb1;exact hsep j y hj hy b hb2 ⟨q,x',hx',hb1⟩
  ·rw[renO_blk] at hb2;exact hsep i x hi hx b hb1 ⟨p,y',hy',hb2⟩
  ·exact hr.dist i j x y hij hx hy b hb1 hb2
 ·exact⟨hevo.os.trans hr.evo.os,hevo.tape.trans hr.evo.tape,hevo.output.trans hr.evo.output,Nat.le_trans hr.evo.size hevo.size,fun b hb hm=>(hevo.block b (Nat.lt_of_lt_of_le hb hr.evo.size) (fun h9=>by
   rcases h9 with h9|h9
   ·exact hm (.inl h9)
   ·obtain⟨i,o,h1,h2,_⟩:=hb0 b h9;rcases hr.gb i o h1 b h2 with h8|h8
    ·omega
    ·exact hm (.inr h8))).trans (hr.evo.block b hb hm),Nat.le_trans hr.evo.drawn hevo.drawn⟩
 ·intro j x hx b hb;rcases hone j x hx with ⟨q,y,hy,rfl,_⟩|⟨hj,hx⟩
  ·rw[renO_blk] at hb;rcases hbl b ⟨q,y,hy,hb⟩ with h9|h9
   ·exact .inl (by omega)
   ·obtain⟨i,o,h1,h2,_⟩:=hb0 b h9;exact hr.gb i o h1 b h2
  ·exact hr.gb j x hx b hb
 ·intro b hb;obtain⟨h1,h2⟩:=hR' b hb;rcases h2 with h9|h9|h9
  ·obtain⟨g1,g2,g3⟩:=hr.rr b h9;exact⟨h1,g2,g3⟩
  ·exact⟨h1,fun hm=>by have:=hr.ltM hm;omega,.inr (.inl (by omega))⟩
  ·have h8:=hb0lt b h9;obtain⟨i,o,g1,g2,_⟩:=hb0 b h9;exact⟨h1,fun hm=>by have:=hr.ltM hm;omega,.inr (hr.gb i o g1 b g2)⟩
theorem wcall_multi {ds:List (Option Tmp)} {rest:List Oper} {dst:Option Tmp} {n:Nat} {env:List (Nat×SV)} {own own':List Own} {k:St→Prop} {f:FuncId} {args args':List SV} {post:SV→List Own→Prop} (fids:List SV) (ids:List Nat) {os0:List Own} (h:ContractL F P f args' os0 post) (hown:frz own fids=own') (hnd:ids.Nodup) (hget:ids.map (fun i=>(own'[i]?).map (renO (toF ids)))=os0.map some)
  (ha:args.map (argL own' ids)=args') (hk:∀ r os1,post r os1→WO P F ds rest (St.put ⟨n,env,setA ids (os1.map (renO (toC ids own'.length))) 0 own'⟩ dst (renI (toC ids own'.length) r)) k):WCall P F ds rest dst ⟨n,env,own⟩ f (some args) k:=by
 unfold WCall;subst ha;exact .inl <| callK_multi (st:=⟨n,env,own⟩) (k:=fun st'=>WO P F ds rest st' k) fids ids hown hnd hget h hk
end
end Eng
end

section
open Eng
namespace Eng
variable {P:Program} {F:Frm} {n:Nat} {env:List (Nat×SV)} {c:Code} {K:Exit→St→Prop}
theorem Sat.settleTail {o o':Own} {T:List Own} (hb:∀ b,o'.blk=some b→o.blk=some b)
  (ho:∀ (R R':Nat→Prop) (B:Nat) (w:World),(∀ b,R b→R' b)→(∀ t∈T,t.ok R B w)→(∀ t∈T,∀ b,t.blk=some b→R' b)→(∀ b,o.blk=some b→¬ R' b)→o.ok R B w→o'.ok R' B w)
  (h:Sat P F c ⟨n,env,[o']⟩ K):Sat P F c ⟨n,env,o :: T⟩ K:=by
 rintro R0 w0 a w ⟨ob,R,hr⟩
 have hT:∀ t∈T,∃ i,(o :: T)[i+1]? = some t:=fun t ht=>by
  obtain⟨i,hi,rfl⟩:=List.getElem_of_mem ht;exact⟨i,by simp [hi]⟩
 refine h R0 w0 a w ⟨ob,fun b=>R b∨∃ t∈T,t.blk=some b,hr.defers,?_,hr.size,?_,?_,hr.evo,hr.inv,hr.obM,?_,hr.obw,?_,fun b hb=>.inl (hr.r0 b hb)⟩
 ·intro t s ht;exact⟨(hr.env t s ht).1,QD (fun _ h=>.inl h) (fun _ _=>rfl) s (hr.env t s ht).2⟩
 ·intro i x hx
  match i,hx with
  | 0,hx=>
   simp only[List.getElem?_cons_zero,Option.some.injEq] at hx;subst hx;refine ho R _ ob w (fun _ h=>.inl h) (fun t ht=>?_) (fun t ht b hb=>.inr ⟨t,ht,hb⟩) (fun b hb2 hR=>?_) (hr.own 0 o rfl)
   ·obtain⟨i,hi⟩:=hT t ht;exact hr.own _ t hi
   ·rcases hR with hR|⟨t,ht,hb3⟩
    ·exact (Qw (hr.own 0 o rfl) hb2).2.2 hR
    ·obtain⟨i,hi⟩:=hT t ht;exact hr.dist 0 (i+1) o t (by omega) rfl hi b hb2 hb3
  | i+1,hx=>simp at hx
 ·intro i j x y hij hx hy
  match i,j,hx,hy with
  | 0,0,_,_=>omega
  | 0,j+1,_,hy=>simp at hy
  | i+1,_,hx,_=>simp at hx
 ·intro i x hx b hxb
  match i,hx with
  | 0,hx=>
   simp only[List.getElem?_cons_zero,Option.some.injEq] at hx;subst hx;exact hr.gb 0 o rfl b (hb b hxb)
  | i+1,hx=>simp at hx
 ·rintro b (hR|⟨t,ht,hb3⟩)
  ·exact hr.rr b hR
  ·obtain⟨i,hi⟩:=hT t ht;have h1:=Qw (hr.own _ t hi) hb3;exact⟨h1.2.1,fun hm=>by have:=hr.ltM hm;omega,.inr (hr.gb _ t hi b hb3)⟩
end Eng
end

section
namespace Eng
theorem setA_rest (ids:List Nat) (os:List Own) (i:Nat) (h:∀ j∈ids,j<i) (hl:os.length≤ids.length):∀ l:List Own,setA ids os i l=l:=by
 intro l
 induction l generalizing i with
 | nil=>simp only[setA];exact List.drop_eq_nil_of_le hl
 | cons o l ih=>
  have hn:idx ids i=none:=by
   cases hx:idx ids i with
   | none=>rfl
   | some k=>have:=h i (List.mem_of_getElem? (idx_some hx));omega
  simp only[setA,hn];rw[ih (i+1) fun j hj=>by have:=h j hj;omega]
theorem argL_id (own:List Own) (ids:List Nat) (v r m:Int):argL own ids (.agg 3 fun j=>[SV.i .i64 v,.i .i64 r,.i .i64 m].getD j default)=.agg 3 fun j=>[SV.i .i64 v,.i .i64 r,.i .i64 m].getD j default:=by
 simp only[argL]
 congr 1
 funext j
 match j with
 | 0=>rfl
 | 1=>rfl
 | 2=>rfl
 | n+3=>rfl
theorem renI_one (id m:Nat) (a:Option Addr) (l c:Nat):renI (toC [id] m) (.os 0 a l c)=.os id a l c:=rfl
theorem renO_row (f:Nat→Nat) (a:Option Addr) (e l c s:Nat) (r:Nat→Nat→SV):renO f (.row a e l c s r)=.row a e l c s r:=rfl
theorem setA_0 (o1 o:Own) (l:List Own):setA [0] [o1] 0 (o :: l)=o1 :: l:=by
 show o1 :: setA [0] [o1] 1 l=_;rw[setA_rest [0] [o1] 1 (fun j hj=>by rw[List.mem_singleton.1 hj];omega) (Nat.le_refl _)]
theorem argL_lits (own:List Own) (ids:List Nat) (n:Nat) (l:List SV) (h:∀ s∈l,argL1 own ids s=s):argL own ids (.agg n fun j=>l.getD j default)=.agg n fun j=>l.getD j default:=by
 simp only[argL]
 congr 1
 funext j
 by_cases hj:j<l.length
 ·rw[List.getD_eq_getElem?_getD,List.getElem?_eq_getElem hj];exact h _ (List.getElem_mem hj)
 ·rw[List.getD_eq_getElem?_getD,List.getElem?_eq_none (by omega)];rfl
end Eng
end

section
namespace Eng
theorem XP {P:Program} {F:Frm} {n:Nat} {env:List (Nat×SV)} {own:List Own} {c:Code} {K:Exit→St→Prop} (id j:Nat) {blk ty id2 len cap e sz:Nat} {ad:Option Addr} {cs:List SV} {rd:Nat→Nat→SV}
  (hb:own[id]? = some (.box blk ty cs)) (hj:cs[j]? = some (.os id2 ad len cap)) (h2:own[id2]? = some (.row ad e len cap sz rd))
  (h:Sat P F c ⟨n,env,(own.set id2 (.frz ad len cap sz rd)).set id (.box blk ty (cs.set j (.sl ad len cap sz rd)))⟩ K):Sat P F c ⟨n,env,own⟩ K:=by
 rintro R0 w0 a w ⟨ob,R,hr⟩;have hf:frz own [.os id2 ad len cap]=own.set id2 (.frz ad len cap sz rd):=by simp [frz,frzOne,h2]
 have hne:id2≠id:=fun e=>by subst e;rw[hb] at h2;cases h2
 have hlt2:id2<own.length:=(List.getElem?_eq_some_iff.1 h2).1;obtain⟨R',hRR,hr'⟩:=hr.frz [.os id2 ad len cap];rw[hf] at hr';have hb':(own.set id2 (.frz ad len cap sz rd))[id]? = some (.box blk ty cs):=by rw[List.getElem?_set_ne hne];exact hb
 have h2':(own.set id2 (.frz ad len cap sz rd))[id2]? = some (.frz ad len cap sz rd):=by rw[List.getElem?_set_self hlt2]
 obtain⟨g1,g2,g3,g4⟩:=hr'.own id _ hb';have hfz:(SV.sl ad len cap sz rd).ok R' w:=hr'.own id2 _ h2';refine h R0 w0 a w ⟨ob,R',?_⟩;have hjl:j<cs.length:=(List.getElem?_eq_some_iff.1 hj).1
 have hden:(cs.set j (.sl ad len cap sz rd)).map SV.den=cs.map SV.den:=by
  apply List.ext_getElem?;intro q;rw[List.getElem?_map,List.getElem?_map,List.getElem?_set];split
  ·rename_i e;subst e;simp only[hjl,if_true,hj,Option.map_some];rfl
  ·rfl
 refine hr'.setOwn (g:=blk) hb' rfl (fun b hb=>by simpa [Own.blk] using hb.symm) rfl rfl rfl (Nat.le_refl _) (fun _ _ _=>rfl) ⟨g1,g2,by rw[hden];exact g3,fun c' hc'=>?_⟩;rcases List.mem_or_eq_of_mem_set hc' with hc'|rfl
 ·exact g4 c' hc'
 ·exact⟨rfl,hfz⟩
end Eng
end

section
namespace Eng
variable {P:Program} {F:Frm}
theorem Sat.boxBools {c:Code} {K:Exit→St→Prop} {n:Nat} {env:List (Nat×SV)} {own:List Own} (id:Nat) {blk ty:Nat} {cs:List SV} (hl:own[id]? = some (.box blk ty cs))
  (h:Sat P F c ⟨n,env,own.set id (.box blk ty (cs.map roB))⟩ K):Sat P F c ⟨n,env,own⟩ K:=by
 rintro R0 w0 a w ⟨ob,R,hr⟩;refine h R0 w0 a w ⟨ob,R,?_⟩;have hbox:=hr.own id _ hl;have hidl:id<own.length:=(List.getElem?_eq_some_iff.1 hl).1
 have hden:(cs.map roB).map SV.den=cs.map SV.den:=by
  rw[List.map_map];exact List.map_congr_left fun s _=>roB_den s
 have hok:(Own.box blk ty (cs.map roB)).ok R ob w:=by
  refine⟨hbox.1,hbox.2.1,by rw[hden];exact hbox.2.2.1,fun x hx=>?_⟩;obtain⟨s,hs,rfl⟩:=List.mem_map.1 hx;obtain⟨h1,h2⟩:=hbox.2.2.2 s hs;refine⟨by rw[roB_den];exact h1,?_⟩;cases s<;>first|exact h2|trivial
 refine⟨hr.defers,hr.env,hr.size,?_,?_,hr.evo,hr.inv,hr.obM,?_,hr.obw,hr.rr,hr.r0⟩
 ·intro i x hx;rw[List.getElem?_set] at hx;split at hx
  ·simp only[hidl,if_true,Option.some.injEq] at hx;subst hx;exact hok
  ·exact hr.own i x hx
 ·intro i k x y hik hx hy b hb1 hb2;rw[List.getElem?_set] at hx hy;split at hx<;>split at hy
  ·omega
  ·rename_i e1 _;subst e1;simp only[hidl,if_true,Option.some.injEq] at hx;subst hx;exact hr.dist id k _ y hik hl hy b hb1 hb2
  ·rename_i _ e1;subst e1;simp only[hidl,if_true,Option.some.injEq] at hy;subst hy;exact hr.dist i id x _ hik hx hl b hb1 hb2
  ·exact hr.dist i k x y hik hx hy b hb1 hb2
 ·exact gb_set (m:=w0.w.heap.size) (Nat.le_refl _) hr.gb hl fun b hb=>.inl hb
end Eng
end
end Go.Proofs.YtfeiiadligkamaaGreat
