import Derived.Test.YtabgkfjfmjdfiaaGreatDoorPk1
import Derived.Lib.ItoaNum
import Derived.Lib.Repeat
import Derived.Lib.Join
import Derived.Lib.SlTrimSet
import Derived.Lib.Bytealg
import Derived.Shelf.Strings.Prefix
import Derived.Test.YtabgkfjfmjdfiaaGreatDoorPk2
import Derived.Laws.RangeString
set_option linter.unusedSimpArgs false
set_option linter.unusedVariables false
namespace Go.Proofs.YtabgkfjfmjdfiaaGreatDoor
namespace Tq
open Lmb
def dch (n:Nat):UInt8:=UInt8.ofNat (48+n % 10)
theorem Za {n:Nat} (h:n<10):Lib.decDigits n=[dch n]:=by
  rw[Lib.decDigits_one h];unfold dch;rw[Nat.mod_eq_of_lt h]
theorem dec_big {n:Nat} (h:10≤n):Lib.decDigits n=Lib.decDigits (n / 10) ++ [dch n]:=by
  rw[Lib.decDigits,dif_neg (by omega)];rfl
def padN:Nat→Nat→List UInt8
  | 0,_=>[]
  | k+1,n=>padN k (n / 10) ++ [dch n]
theorem padN_len:∀ k n,(padN k n).length=k
  | 0,_=>rfl
  | k+1,n=>by rw[padN,List.length_append,padN_len k];rfl
theorem padN_add:∀ a b n,padN (a+b) n=padN a (n / 10 ^ b) ++ padN b n
  | a,0,n=>by simp [padN]
  | a,b+1,n=>by
    rw[← Nat.add_assoc,padN,padN_add a b,padN,← List.append_assoc,Nat.div_div_eq_div_mul,Nat.pow_succ,Nat.mul_comm 10]
theorem dec_split:∀ (k n:Nat),10 ^ k≤n→0<n→Lib.decDigits n=Lib.decDigits (n / 10 ^ k) ++ padN k n
  | 0,n,_,_=>by simp [padN]
  | k+1,n,h,h0=>by
    have h10:10≤n:=Nat.le_trans (by rw[Nat.pow_succ];have:=Nat.one_le_pow k 10 (by decide);omega) h;rw[dec_big h10,dec_split k (n / 10) ((Nat.le_div_iff_mul_le (by decide)).2 (by rw[← Nat.pow_succ];exact h)) (by omega),padN,← List.append_assoc,Nat.div_div_eq_div_mul,Nat.pow_succ,Nat.mul_comm 10]
theorem dec_pos (n:Nat):1≤(Lib.decDigits n).length:=by
  by_cases h:n<10
  · rw[Za h];exact Nat.le_refl _
  · rw[dec_big (by omega),List.length_append];simp
theorem padN_zero:∀ k,padN k 0=Lib.repeatL [48] k
  | 0=>rfl
  | k+1=>by
    rw[padN,Nat.zero_div,padN_zero k,Lib.repeatL_add];rfl
theorem pad_dec:∀ (k n:Nat),n<10 ^ (k+1)→(Lib.decDigits n).length≤k+1∧Lib.repeatL [48] (k+1 - (Lib.decDigits n).length) ++ Lib.decDigits n=padN (k+1) n
  | 0,n,h=>by
    have h9:n<10:=by simpa using h
    rw[Za h9];exact⟨Nat.le_refl _,rfl⟩
  | k+1,n,h=>by
    by_cases h9:n<10
    · rw[Za h9]
      refine⟨by simp,?_⟩;rw[padN,show n / 10=0 by omega,padN_zero];rfl
    · obtain⟨g1,g2⟩:=pad_dec k (n / 10) (Nat.div_lt_of_lt_mul (by rw[Nat.pow_succ] at h;omega))
      rw[dec_big (by omega),List.length_append];refine⟨by simp;omega,?_⟩;rw[padN,← g2,← List.append_assoc,show k+1+1 - ((Lib.decDigits (n / 10)).length+[dch n].length)=k+1 - (Lib.decDigits (n / 10)).length by simp]
theorem padN_mod:∀ (k n:Nat),padN k (n % 10 ^ k)=padN k n
  | 0,n=>rfl
  | k+1,n=>by
    have e1:n % 10 ^ (k+1) / 10=n / 10 % 10 ^ k:=by
      rw[Nat.pow_succ,Nat.mul_comm,Nat.mod_mul_right_div_self]
    have e2:n % 10 ^ (k+1) % 10=n % 10:=Nat.mod_mod_of_dvd n ⟨10 ^ k,by rw[Nat.pow_succ,Nat.mul_comm]⟩;rw[padN,e1,padN_mod k,padN];unfold dch;rw[e2]
theorem dec_two:∀ (k n:Nat),n<2 ^ k→(Lib.decDigits n).length≤k+1
  | 0,n,h=>by
    rw[Za (by
        have:n<1:=by simpa using h
        omega)]
    exact Nat.le_refl _
  | k+1,n,h=>by
    by_cases h9:n<10
    · rw[Za h9];simp
    · rw[dec_big (by omega),List.length_append]
      have:=dec_two k (n / 10) (by rw[Nat.pow_succ] at h;omega);simp;omega
/-! ### The text in chunks -/
def chunk (r:Nat):List UInt8:=if 0<r / 1000000000 then Lib.repeatL [48] (9 - (Lib.decDigits (r % 1000000000)).length) ++ Lib.decDigits (r % 1000000000) else Lib.decDigits (r % 1000000000)
structure TextInv (n r:Nat) (parts:List (List UInt8)):Prop where
  go:0<r→r=n / 10 ^ (9 * parts.length)∧parts.reverse.flatten=padN (9 * parts.length) n
  done:r=0→parts.reverse.flatten=Lib.decDigits n∧0<parts.length
  small:r * 2 ^ parts.length≤n
theorem TextInv.start {n:Nat} (h:0<n):TextInv n n []:=⟨fun _=>⟨by simp,rfl⟩,fun h0=>by omega,by simp⟩
theorem TextInv.step {n r:Nat} {parts:List (List UInt8)} (h:TextInv n r parts) (hr:0<r):TextInv n (r / 1000000000) (parts ++ [chunk r]):=by
  obtain⟨h1,h2⟩:=h.go hr;have hm:r % 1000000000<10 ^ (8+1):=Nat.mod_lt _ (by decide);have hlen:(parts ++ [chunk r]).length=parts.length+1:=by simp
  have hfl:(parts ++ [chunk r]).reverse.flatten=chunk r ++ parts.reverse.flatten:=by simp
  refine⟨fun h0=>?_,fun h0=>?_,?_⟩
  · rw[hlen,hfl,h2]
    refine⟨?_,?_⟩
    · rw[h1,Nat.div_div_eq_div_mul,show 9 * (parts.length+1)=9 * parts.length+9 by omega,Nat.pow_add]
    · unfold chunk
      rw[if_pos h0,(pad_dec 8 _ hm).2,show 9 * (parts.length+1)=9+9 * parts.length by omega];have e:=padN_add 9 (9 * parts.length) n;rw[← h1] at e;rw[e]
      congr 1
      exact padN_mod 9 r
  · rw[hlen,hfl,h2]
    refine⟨?_,by omega⟩;unfold chunk;have hr9:r % 1000000000=r:=Nat.mod_eq_of_lt (by omega);rw[if_neg (by omega),hr9,h1]
    have hle:10 ^ (9 * parts.length)≤n:=by
      rcases Nat.lt_or_ge n (10 ^ (9 * parts.length)) with h9|h9
      · rw[Nat.div_eq_of_lt h9] at h1;omega
      · exact h9
    exact (dec_split _ n hle (Nat.lt_of_lt_of_le (Nat.pow_pos (by decide)) hle)).symm
  · rw[hlen,Nat.pow_succ]
    refine Nat.le_trans ?_ h.small
    have:r / 1000000000 * 2≤r:=by omega
    calc r / 1000000000 * (2 ^ parts.length * 2)=r / 1000000000 * 2 * 2 ^ parts.length:=by rw[Nat.mul_comm (2 ^ parts.length),Nat.mul_assoc]
      _≤r * 2 ^ parts.length:=Nat.mul_le_mul_right _ this
theorem TextInv.len {n r k:Nat} {parts:List (List UInt8)} (h:TextInv n r parts) (hr:0<r) (hn:n<2 ^ k):parts.length<k:=by
  have:=h.small;rcases Nat.lt_or_ge parts.length k with h9|h9
  · exact h9
  · have h1:2 ^ k≤2 ^ parts.length:=Nat.pow_le_pow_right (by decide) h9
    have h2:2 ^ parts.length≤r * 2 ^ parts.length:=Nat.le_mul_of_pos_left _ hr;omega
theorem join_none (xs:List (List UInt8)):Lib.join xs []=xs.flatten:=by
  cases xs with
  | nil=>rfl
  | cons x r=>
    rw[Lib.join_cons,List.flatten_cons]
    congr 1
    unfold Lib.joinTail;simp
/-! ### Reading digits -/
def isDig (c:UInt8):Prop:=48≤c.toNat∧c.toNat≤57
def Zx (l:List UInt8):Nat:=l.foldl (fun v c=>10 * v+(c.toNat - 48)) 0
theorem valD_snoc (l:List UInt8) (c:UInt8):Zx (l ++ [c])=10 * Zx l+(c.toNat - 48):=by unfold Zx;rw[List.foldl_append];rfl
theorem dch_nat (n:Nat):(dch n).toNat=48+n % 10:=by
  unfold dch;rw[UInt8.toNat_ofNat'];exact Nat.mod_eq_of_lt (by omega)
theorem valD_dec (n:Nat):Zx (Lib.decDigits n)=n∧(∀ c∈Lib.decDigits n,isDig c):=by
  induction n using Nat.strongRecOn with
  | _ n ih=>
    by_cases h:n<10
    · rw[Za h]
      refine⟨?_,fun c hc=>?_⟩
      · show 10 * 0+((dch n).toNat - 48)=n
        rw[dch_nat];omega
      · rw[List.mem_singleton.1 hc];unfold isDig;rw[dch_nat];omega
    · obtain⟨g1,g2⟩:=ih (n / 10) (by omega)
      rw[dec_big (by omega)];refine⟨?_,fun c hc=>?_⟩
      · rw[valD_snoc,g1,dch_nat];omega
      · rcases List.mem_append.1 hc with hc|hc
        · exact g2 c hc
        · rw[List.mem_singleton.1 hc];unfold isDig;rw[dch_nat];omega
theorem dec_inj {m n:Nat} (h:Lib.decDigits m=Lib.decDigits n):m=n:=by rw[← (valD_dec m).1,h,(valD_dec n).1]
theorem dec_head {n:Nat} (h:0<n):(Lib.decDigits n)[0]?≠some 48:=by
  induction n using Nat.strongRecOn with
  | _ n ih=>
    by_cases h9:n<10
    · rw[Za h9]
      intro e;simp only[List.getElem?_cons_zero,Option.some.injEq] at e;have:=congrArg UInt8.toNat e;rw[dch_nat] at this;have h48:(48:UInt8).toNat=48:=rfl;rw[h48] at this;omega
    · rw[dec_big (by omega),List.getElem?_append_left (dec_pos _)]
      exact ih (n / 10) (by omega) (by omega)
theorem trim_all {l cs:List UInt8} (h:∀ c∈l,cs.contains c=true):Lib.trimS l cs=[]:=by
  have h1:∀ (l:List UInt8),(∀ c∈l,cs.contains c=true)→l.dropWhile (cs.contains ·)=[]:=by
    intro l hl
    induction l with
    | nil=>rfl
    | cons x l ih=>
      rw[List.dropWhile_cons_of_pos (hl x (by simp)),ih fun c hc=>hl c (by simp [hc])]
  unfold Lib.trimS Lib.trimRightS;rw[h1 l.reverse fun c hc=>h c (List.mem_reverse.1 hc)];rfl
structure DigInv (xs:List Int) (c0:Int) (i:Nat) (ys:List Int) (carry:Int):Prop where
  len:ys.length=xs.length
  limbs:Qv ys
  rest:∀ j,i≤j→ys.getD j 0=xs.getD j 0
  c_lo:0≤carry
  c_hi:carry≤10
  val:val (ys.take i)+pw i * carry=10 * val (xs.take i)+c0
theorem DigInv.start {xs:List Int} {c0:Int} (hx:Qv xs) (h0:0≤c0) (h1:c0≤9):DigInv xs c0 0 xs c0:=⟨rfl,hx,fun _ _=>rfl,h0,by omega,by simp [Lmb.val,pw]⟩
theorem take_set_lt {xs:List Int} {i:Nat} {v:Int}:(xs.set i v).take i=xs.take i:=by
  apply List.ext_getElem?;intro j;simp only[List.getElem?_take];split
  · rw[List.getElem?_set_ne (by omega)]
  · rfl
theorem DigInv.step {xs ys:List Int} {c0 carry:Int} {i:Nat} (h:DigInv xs c0 i ys carry) (hx:Qv xs) (hi:i<xs.length) :
    DigInv xs c0 (i+1) (ys.set i ((10 * ys.getD i 0+carry) % 1073741824)) ((10 * ys.getD i 0+carry) / 1073741824):=by
  have hl:=h.len;have hc0:=h.c_lo;have hc1:=h.c_hi
  have hlim:0≤ys.getD i 0∧ys.getD i 0<1073741824:=by
    have e:ys.getD i 0=ys[i]'(by omega):=by simp [List.getD,show i<ys.length by omega]
    rw[e];exact h.limbs _ (List.getElem_mem _)
  have hxe:=h.rest i (Nat.le_refl _)
  have hgs:∀ j,(ys.set i ((10 * ys.getD i 0+carry) % 1073741824)).getD j 0=if i=j then (10 * ys.getD i 0+carry) % 1073741824 else ys.getD j 0:=fun j=>by
    simp only[List.getD,List.getElem?_set];by_cases e:i=j
    · subst e;simp [show i<ys.length by omega]
    · simp [e]
  refine⟨by rw[List.length_set];exact hl,fun x hx=>?_,fun j hj=>?_,by omega,by omega,?_⟩
  · rcases List.mem_or_eq_of_mem_set hx with hx|rfl
    · exact h.limbs x hx
    · omega
  · rw[hgs j,if_neg (by omega)]
    exact h.rest j (by omega)
  · rw[QR _ i (by rw[List.length_set];omega),take_set_lt,hgs i,if_pos rfl,QR xs i hi,← hxe]
    have hv:=h.val;have hp:pw (i+1)=pw i * 1073741824:=by unfold pw;rw[Int.pow_succ]
    rw[hp];have hdm:=Int.emod_add_mul_ediv (10 * ys.getD i 0+carry) 1073741824;generalize (10 * ys.getD i 0+carry) % 1073741824=q at hdm ⊢;generalize (10 * ys.getD i 0+carry) / 1073741824=d at hdm ⊢;have e1:pw i * q+pw i * 1073741824 * d=pw i * (10 * ys.getD i 0+carry):=by rw[← hdm,Int.mul_add,Int.mul_assoc]
    have e2:pw i * (10 * ys.getD i 0+carry)=10 * (pw i * ys.getD i 0)+pw i * carry:=by rw[Int.mul_add,Int.mul_left_comm]
    have e3:10 * (Lmb.val (xs.take i)+pw i * ys.getD i 0)=10 * Lmb.val (xs.take i)+10 * (pw i * ys.getD i 0):=Int.mul_add _ _ _;omega
end Tq
end Go.Proofs.YtabgkfjfmjdfiaaGreatDoor

namespace Go.Proofs.YtabgkfjfmjdfiaaGreatDoor
namespace Tq
open Lmb
/-! ### Text -/
theorem rep_zero_cons (m:Nat):Lib.repeatL [48] (m+1)=48 :: Lib.repeatL [48] m:=by
  rfl
theorem rep_len (m:Nat):(Lib.repeatL [(48:UInt8)] m).length=m:=by rw[Lib.repeatL_length];simp
structure RtI (N j r:Nat):Prop where
  rest:r=N / 10 ^ (9 * j)
  small:r * 2 ^ j≤N
  pos:j=0∨0<N
theorem RtI.start (N:Nat):RtI N 0 N:=⟨by simp,by simp,.inl rfl⟩
theorem RtI.step {N j r:Nat} (h:RtI N j r) (h0:0<r):RtI N (j+1) (r / 1000000000):=by
  refine⟨?_,?_,.inr ?_⟩
  · rw[h.rest,Nat.div_div_eq_div_mul,show 9 * (j+1)=9 * j+9 by omega,Nat.pow_add]
  · rw[Nat.pow_succ]
    refine Nat.le_trans ?_ h.small
    have:r / 1000000000 * 2≤r:=by omega
    calc r / 1000000000 * (2 ^ j * 2)=r / 1000000000 * 2 * 2 ^ j:=by rw[Nat.mul_comm (2 ^ j),Nat.mul_assoc]
      _≤r * 2 ^ j:=Nat.mul_le_mul_right _ this
  · have:=h.small
    have h2:0<2 ^ j:=Nat.pow_pos (by decide);have h3:=Nat.mul_pos h0 h2;omega
theorem RtI.len {N j r k:Nat} (h:RtI N j r) (h0:0<r) (hn:N<2 ^ k):j<k:=by
  have:=h.small;rcases Nat.lt_or_ge j k with h9|h9
  · exact h9
  · have h1:2 ^ k≤2 ^ j:=Nat.pow_le_pow_right (by decide) h9
    have h2:2 ^ j≤r * 2 ^ j:=Nat.le_mul_of_pos_left _ h0;omega
theorem RtI.cat {N j r:Nat} (h:RtI N j r):padN 9 (r % 1000000000) ++ padN (9 * j) N=padN (9 * (j+1)) N:=by
  rw[show 9 * (j+1)=9+9 * j by omega,padN_add,← h.rest]
  congr 1
  exact padN_mod 9 r
theorem RtI.done {N j r:Nat} (h:RtI N j r):∃ m,(if r=0∧j≠0 then [] else Lib.decDigits r) ++ padN (9 * j) N=Lib.repeatL [48] m ++ Lib.decDigits N∧(N=0→m=0)∧m≤9 * j:=by
  by_cases hr:r=0
  · rcases h.pos with hj|hN
    · subst hj
      have e:N=0:=by have:=h.rest;simp at this;omega
      subst e;refine⟨0,?_,fun _=>rfl,by omega⟩;rw[if_neg (by simp),hr];simp [padN,Lib.repeatL]
    · by_cases hj:j=0
      · subst hj
        have:=h.rest;simp at this;omega
      · have hlt:N<10 ^ (9 * j):=by
          have:=h.rest;rw[hr] at this;rcases Nat.lt_or_ge N (10 ^ (9 * j)) with h9|h9
          · exact h9
          · have:=Nat.div_pos h9 (Nat.pow_pos (by decide))
            omega
        obtain⟨k,hk⟩:∃ k,9 * j=k+1:=⟨9 * j - 1,by omega⟩;rw[hk] at hlt;obtain⟨_,h2⟩:=pad_dec k N hlt;refine⟨k+1 - (Lib.decDigits N).length,?_,fun h=>by omega,by omega⟩;rw[if_pos ⟨hr,hj⟩,hk,h2];rfl
  · have hle:10 ^ (9 * j)≤N:=by
      rcases Nat.lt_or_ge N (10 ^ (9 * j)) with h9|h9
      · have:=h.rest
        rw[Nat.div_eq_of_lt h9] at this;exact absurd this hr
      · exact h9
    refine⟨0,?_,fun _=>rfl,by omega⟩;rw[if_neg (fun h9=>hr h9.1),h.rest,← dec_split _ N hle (Nat.lt_of_lt_of_le (Nat.pow_pos (by decide)) hle)];simp [Lib.repeatL]
/-! ### Parse -/
def isDb (c:UInt8):Bool:=decide (48≤c.toNat) && decide (c.toNat≤57)
def digB (l:List UInt8):Bool:=l.all isDb && (decide (0<l.length) && (decide (l.length=1) || decide (l.getD 0 0≠48)))
theorem digB_iff (l:List UInt8):digB l=true ↔ l≠[]∧(∀ c∈l,isDig c)∧(l.length=1∨l[0]?≠some 48):=by
  unfold digB isDb isDig;simp only[Bool.and_eq_true,List.all_eq_true,Bool.or_eq_true,decide_eq_true_eq];cases l with
  | nil=>simp
  | cons x t=>simp
theorem valD_lt0:∀ (l:List UInt8) (v:Nat),(∀ c∈l,isDig c)→l.foldl (fun v c=>10 * v+(c.toNat - 48)) v<(v+1) * 10 ^ l.length
  | [],v,_=>by simp
  | c :: l,v,h=>by
    have h1:=valD_lt0 l (10 * v+(c.toNat - 48)) fun x hx=>h x (List.mem_cons_of_mem _ hx);have h2:=(h c (List.mem_cons_self ..)).2;rw[List.foldl_cons,List.length_cons];refine Nat.lt_of_lt_of_le h1 ?_;rw[Nat.pow_succ,Nat.mul_comm (10 ^ l.length),← Nat.mul_assoc];exact Nat.mul_le_mul_right _ (by omega)
theorem valD_lt (l:List UInt8) (h:∀ c∈l,isDig c):Zx l<10 ^ l.length:=by
  have:=valD_lt0 l 0 h
  rwa [Nat.zero_add,Nat.one_mul] at this
theorem valD_take {l:List UInt8} (h:∀ c∈l,isDig c) (i:Nat):Zx (l.take i)<10 ^ l.length:=by
  refine Nat.lt_of_lt_of_le (valD_lt _ fun c hc=>h c (List.mem_of_mem_take hc)) (Nat.pow_le_pow_right (by decide) ?_);rw[List.length_take];omega
def parE (l:List UInt8):Nat:=if digB l=false then 2 else if 2400<l.length then 5 else if ((Zx l:Nat):Int)<pw 256 then 0 else 5
theorem parE_form {l:List UInt8} (h:digB l=false):parE l=2:=by unfold parE;rw[if_pos h]
theorem parE_long {l:List UInt8} (h:digB l=true) (h2:2400<l.length):parE l=5:=by unfold parE;rw[if_neg (by rw[h];decide),if_pos h2]
theorem parE_ok {l:List UInt8} (h:digB l=true) (h2:¬ 2400<l.length) (h3:((Zx l:Nat):Int)<pw 256):parE l=0:=by unfold parE;rw[if_neg (by rw[h];decide),if_neg h2,if_pos h3]
theorem parE_big {l:List UInt8} (h:digB l=true) (h2:¬ 2400<l.length) (h3:¬ ((Zx l:Nat):Int)<pw 256):parE l=5:=by unfold parE;rw[if_neg (by rw[h];decide),if_neg h2,if_neg h3]
theorem drop_head {p:UInt8→Bool}:∀ {l:List UInt8} {x:UInt8} {t:List UInt8},l.dropWhile p=x :: t→p x=false
  | [],_,_,h=>by cases h
  | y :: l,x,t,h=>by
    by_cases hy:p y=true
    · rw[List.dropWhile_cons_of_pos hy] at h
      exact drop_head h
    · rw[List.dropWhile_cons_of_neg hy] at h
      cases h
      simpa using hy
theorem drop_none {p:UInt8→Bool}:∀ {l:List UInt8},l.dropWhile p=[]→∀ c∈l,p c=true
  | [],_,c,hc=>by cases hc
  | x :: l,h,c,hc=>by
    by_cases hx:p x=true
    · rw[List.dropWhile_cons_of_pos hx] at h
      rcases List.mem_cons.1 hc with rfl|hc
      · exact hx
      · exact drop_none h c hc
    · rw[List.dropWhile_cons_of_neg hx] at h
      cases h
theorem trim_some {l cs:List UInt8} (h:Lib.trimS l cs=[]):∀ c∈l,cs.contains c=true:=by
  unfold Lib.trimS Lib.trimRightS Lib.trimLeftS at h;have h1:=drop_none h;cases hd:l.reverse.dropWhile (cs.contains ·) with
  | nil=>exact fun c hc=>drop_none hd c (List.mem_reverse.2 hc)
  | cons x t=>
    have h2:=h1 x (by rw[hd];simp);have h3:=drop_head hd;rw[h3] at h2;cases h2
theorem set_dig {c:UInt8} (h:([48,49,50,51,52,53,54,55,56,57]:List UInt8).contains c=true):isDig c:=by
  simp only[List.contains,List.elem_eq_mem,decide_eq_true_eq,List.mem_cons,List.not_mem_nil,or_false] at h;rcases h with rfl|rfl|rfl|rfl|rfl|rfl|rfl|rfl|rfl|rfl<;>exact⟨by decide,by decide⟩
end Tq
end Go.Proofs.YtabgkfjfmjdfiaaGreatDoor

namespace Go.Proofs.YtabgkfjfmjdfiaaGreatDoor
namespace Tq
def frBody (p q:Nat):List UInt8:=Lib.decDigits p ++ if q=1 then [] else 47 :: Lib.decDigits q
def frText (neg:Bool) (p q:Nat):List UInt8:=if neg=true then 45 :: frBody p q else frBody p q
theorem dig_ne {c:UInt8} (h:isDig c) {m:UInt8} (hm:m.toNat<48):c≠m:=fun e=>by
  subst e;unfold isDig at h;omega
theorem index_at {m:UInt8}:∀ {l r:List UInt8},(∀ c∈l,c≠m)→Lib.indexByte (l ++ m :: r) m=(l.length:Int)
  | [],r,_=>by
    show (if (m == m)=true then (0:Int) else _)=0;rw[if_pos (beq_self_eq_true m)]
  | x :: l,r,h=>by
    have ih:=index_at (l:=l) (r:=r) (fun c hc=>h c (by simp [hc]));show (if (x == m)=true then (0:Int) else if (Lib.indexByte (l ++ m :: r) m == -1)=true then -1 else Lib.indexByte (l ++ m :: r) m+1)=_;rw[if_neg (by rw[beq_iff_eq];exact h x (by simp)),ih,if_neg (by rw[beq_iff_eq];omega)];simp
theorem index_no {m:UInt8}:∀ {l:List UInt8},(∀ c∈l,c≠m)→Lib.indexByte l m=-1
  | [],_=>rfl
  | x :: l,h=>by
    have ih:=index_no (l:=l) (fun c hc=>h c (by simp [hc]));show (if (x == m)=true then (0:Int) else if (Lib.indexByte l m == -1)=true then -1 else Lib.indexByte l m+1)=_;rw[if_neg (by rw[beq_iff_eq];exact h x (by simp)),ih];rfl
end Tq
end Go.Proofs.YtabgkfjfmjdfiaaGreatDoor

namespace Go.Proofs.YtabgkfjfmjdfiaaGreatDoor
namespace Tq
open Lmb
def splitB (c:UInt8):List UInt8→List (List UInt8)
  | []=>[[]]
  | x :: l=>if x=c then [] :: splitB c l else match splitB c l with
    | p :: r=>(x :: p) :: r
    | []=>[[x]]
theorem splitB_ne (c:UInt8):∀ l,splitB c l≠[]
  | []=>by simp [splitB]
  | x :: l=>by
    unfold splitB;split
    · simp
    · split<;>simp
theorem splitB_none (c:UInt8):∀ l,(∀ x∈l,x≠c)→splitB c l=[l]
  | [],_=>rfl
  | x :: l,h=>by
    have h1:=splitB_none c l (fun y hy=>h y (List.mem_cons_of_mem _ hy));unfold splitB;rw[if_neg (h x List.mem_cons_self),h1]
theorem splitB_app (c:UInt8):∀ (l r:List UInt8),(∀ x∈l,x≠c)→splitB c (l ++ c :: r)=l :: splitB c r
  | [],r,_=>by simp [splitB]
  | x :: l,r,h=>by
    have h1:=splitB_app c l r (fun y hy=>h y (List.mem_cons_of_mem _ hy));rw[List.cons_append]
    conv=>lhs;unfold splitB
    rw[if_neg (h x List.mem_cons_self),h1]
def cutF:List UInt8→List UInt8×Option (List UInt8)
  | []=>([],none)
  | c :: l=>if c=47 then ([],some l) else (c :: (cutF l).1,(cutF l).2)
theorem cutF_spec:∀ l,(∀ x∈(cutF l).1,x≠47)∧match (cutF l).2 with|none=>l=(cutF l).1|some r=>l=(cutF l).1 ++ 47 :: r
  | []=>⟨(fun x hx=>by cases hx),rfl⟩
  | c :: l=>by
    obtain⟨h1,h2⟩:=cutF_spec l;unfold cutF;by_cases hc:c=47
    · rw[if_pos hc]
      exact⟨(fun x hx=>by cases hx),by rw[hc];rfl⟩
    · rw[if_neg hc]
      refine⟨fun x hx=>?_,?_⟩
      · rcases List.mem_cons.1 hx with rfl|hx
        · exact hc
        · exact h1 x hx
      · generalize cutF l=y at h2
        obtain⟨p,q⟩:=y;cases q with
        | none=>exact congrArg (c :: ·) h2
        | some r=>exact congrArg (c :: ·) h2
theorem cutF_none {l:List UInt8} (h:(cutF l).2=none):(cutF l).1=l∧∀ x∈l,x≠47:=by
  obtain⟨h1,h2⟩:=cutF_spec l;rw[h] at h2;have h2:l=(cutF l).1:=h2;rw[← h2] at h1;exact⟨h2.symm,h1⟩
theorem cutF_some {l r:List UInt8} (h:(cutF l).2=some r):l=(cutF l).1 ++ 47 :: r∧∀ x∈(cutF l).1,x≠47:=by
  obtain⟨h1,h2⟩:=cutF_spec l;rw[h] at h2;exact⟨h2,h1⟩
theorem dig_no_slash {l:List UInt8} (h:digB l=true):∀ x∈l,x≠47:=fun x hx=>dig_ne (((digB_iff l).1 h).2.1 x hx) (by decide)
theorem split_one {l:List UInt8} (h:(cutF l).2=none):splitB 47 l=[(cutF l).1]:=by
  obtain⟨h1,h2⟩:=cutF_none h;rw[h1];exact splitB_none 47 l h2
theorem split_more {l r:List UInt8} (h:(cutF l).2=some r):splitB 47 l=(cutF l).1 :: splitB 47 r:=by
  obtain⟨h1,h2⟩:=cutF_some h
  conv=>lhs;rw[h1]
  exact splitB_app 47 _ r h2
theorem split_pos (l:List UInt8):0<(splitB 47 l).length:=List.length_pos_iff.2 (splitB_ne 47 l)
theorem split_rest (r:List UInt8):((∀ x∈r,x≠47)∧splitB 47 r=[r])∨(digB r=false∧2≤(splitB 47 r).length):=by
  cases h:(cutF r).2 with
  | none=>exact .inl ⟨(cutF_none h).2,by rw[split_one h,(cutF_none h).1]⟩
  | some q=>
    right;refine⟨?_,by rw[split_more h];have:=split_pos q;simp;omega⟩;cases hd:digB r with
    | false=>rfl
    | true=>
      exfalso;have h1:=(cutF_some h).1;exact dig_no_slash hd 47 (by rw[h1];simp) rfl
def negF (l:List UInt8):Bool:=decide (l.head? = some 45)
def QT (l:List UInt8):List UInt8:=if l.head? = some 45 then l.drop 1 else l
theorem pre_neg (l:List UInt8):Lib.hasPrefix l [45]=negF l∧Lib.trimPrefix l [45]=QT l:=by
  have e:Lib.hasPrefix l [45]=negF l:=by
    unfold Lib.hasPrefix negF;cases l with
    | nil=>rfl
    | cons c t=>
      show ((45:UInt8) == c && List.isPrefixOf [] t)=decide (some c=some 45);by_cases h:c=45
      · subst h;simp
      · rw[decide_eq_false (fun e=>h (Option.some.inj e)),beq_eq_false_iff_ne.2 (fun e=>h e.symm),Bool.false_and]
  refine⟨e,?_⟩;unfold Lib.trimPrefix QT;rw[e];unfold negF;by_cases h:l.head? = some 45
  · rw[decide_eq_true h,if_pos rfl,if_pos h];rfl
  · rw[decide_eq_false h,if_neg (by decide),if_neg h]
theorem body_len (l:List UInt8):(QT l).length≤l.length:=by unfold QT;split<;>simp
def fpOut (l:List UInt8):Option (Bool×Nat×Nat):=
  match (cutF (QT l)).2 with
  | none=>if digB (cutF (QT l)).1=false∨(negF l=true∧(cutF (QT l)).1=[48]) then none else some (negF l,Zx (cutF (QT l)).1,1)
  | some r=>if digB (cutF (QT l)).1=false∨digB r=false∨r=[48]∨r=[49] then none else if Nat.gcd (Zx (cutF (QT l)).1) (Zx r)=1 then some (negF l,Zx (cutF (QT l)).1,Zx r) else none
theorem val_bnd {l:List UInt8} (h:digB l=true) (hl:l.length≤1000):((Zx l:Nat):Int)<pw 256:=by
  obtain⟨_,hd,_⟩:=(digB_iff l).1 h;have h1:=valD_lt l hd
  have ten:∀ n:Nat,10 ^ n≤2 ^ (4 * n):=by
    intro n
    induction n with
    | zero=>exact Nat.le_refl _
    | succ n ih=>
      rw[Nat.pow_succ,show 4 * (n+1)=4 * n+4 by omega,Nat.pow_add];exact Nat.mul_le_mul ih (by decide)
  exact lt_pw (a:=4 * l.length) (Nat.le_of_lt (Nat.lt_of_lt_of_le h1 (ten _))) (by omega)
theorem par_small {l:List UInt8} (hl:l.length≤1000):parE l=if digB l=true then 0 else 2:=by
  cases h:digB l with
  | true=>rw[if_pos rfl];exact parE_ok h (by omega) (val_bnd h hl)
  | false=>rw[if_neg (by decide)];exact parE_form h
end Tq
end Go.Proofs.YtabgkfjfmjdfiaaGreatDoor

namespace Go.Proofs.YtabgkfjfmjdfiaaGreatDoor
namespace Eng
structure Row where
  need:Nat
  dst:Nat
  looks:Nat
  kind:Nat
  deriving DecidableEq
def maskL:List Nat→Nat
  | []=>0
  | t :: l=>(1 <<< t) ||| maskL l
theorem maskL_bit:∀ (l:List Nat) (t:Nat),(maskL l).testBit t=l.contains t
  | [],t=>by simp [maskL]
  | u :: l,t=>by
    rw[maskL,Nat.testBit_or,maskL_bit l t,List.contains_cons]
    congr 1
    rw[Nat.one_shiftLeft,Nat.testBit_two_pow];by_cases h:u=t
    · subst h;simp
    · simp [h,Ne.symm h]
def kindB (o:Oper):Nat:=bif wless o.op then 0 else bif loadOp o.op then 1 else 2
def dstOf (o:Oper):Nat:=match o.dst with|some d=>d+1|none=>0
def rowOf (md:Region.Mode) (ops:Array Oper) (o:Oper):Row:=⟨maskL ((o.after.toList.filter (Region.binds md)).map (·.on)),dstOf o,maskL (o.looksAt ops),kindB o⟩
def tabOk (md:Region.Mode) (ops:Array Oper) (n:Nat):List Oper→List Row→Bool
  | [],[]=>true
  | o :: l,r :: T=>Nat.beq (maskL ((o.after.toList.filter (Region.binds md)).map (·.on))) r.need && Nat.beq (dstOf o) r.dst && Nat.beq (maskL (o.looksAt ops)) r.looks && Nat.beq (kindB o) r.kind && Nat.blt r.need (2 ^ n) && tabOk md ops n l T
  | _,_=>false
theorem ZB {md:Region.Mode} {ops:Array Oper} {n:Nat}:∀ (l:List Oper) (T:List Row),tabOk md ops n l T=true→T.length=l.length∧∀ (j:Nat) (o:Oper),l[j]? = some o→T[j]? = some (rowOf md ops o)∧(rowOf md ops o).need<2 ^ n
  | [],[],_=>⟨rfl,fun j o h=>by simp at h⟩
  | [],_ :: _,h=>by simp [tabOk] at h
  | _ :: _,[],h=>by simp [tabOk] at h
  | o :: l,r :: T,h=>by
    simp only[tabOk,Bool.and_eq_true,Nat.beq_eq,Nat.blt_eq] at h;obtain⟨⟨⟨⟨⟨h1,h2⟩,h3⟩,h4⟩,h5⟩,h6⟩:=h;obtain⟨g1,g2⟩:=ZB l T h6;refine⟨by simp [g1],fun j o' hj=>?_⟩;cases j with
    | zero=>
      simp only[List.getElem?_cons_zero,Option.some.injEq] at hj ⊢;subst hj;have e:r=rowOf md ops o:=by cases r;simp only at *;subst h1;subst h2;subst h3;subst h4;rfl
      rw[← e];exact⟨rfl,h5⟩
    | succ j=>
      simp only[List.getElem?_cons_succ] at hj ⊢;exact g2 j o' hj
def lst (n mask:Nat):Array Bool:=((List.range n).map mask.testBit).toArray
theorem lst_getD (n mask j:Nat) (d:Bool):(lst n mask).getD j d=if j<n then mask.testBit j else d:=by
  unfold lst;by_cases h:j<n
  · simp [Array.getD,h]
  · simp [Array.getD,h]
theorem lst_set {n mask k:Nat}:(lst n mask).setIfInBounds k true=lst n (mask ||| (1 <<< k)):=by
  apply Array.ext';unfold lst;simp only[List.setIfInBounds_toArray];apply List.ext_getElem?;intro j;rw[List.getElem?_set];simp only[List.length_map,List.length_range,List.getElem?_map];by_cases hj:j<n
  · rw[List.getElem?_range hj]
    by_cases e:k=j
    · subst e
      rw[if_pos rfl,if_pos hj,Option.map_some,Nat.testBit_or,Nat.one_shiftLeft,Nat.testBit_two_pow];simp
    · rw[if_neg e,Option.map_some,Option.map_some,Nat.testBit_or,Nat.one_shiftLeft,Nat.testBit_two_pow]
      simp [e]
  · rw[List.getElem?_eq_none (by simp;omega)]
    split
    · subst_vars;simp [hj]
    · rfl
theorem lst_zero (n:Nat):lst n 0=Array.replicate n false:=by
  apply Array.ext';unfold lst;apply List.ext_getElem?;intro j;simp only[List.getElem?_map,Array.toList_replicate,List.getElem?_replicate];by_cases hj:j<n
  · rw[List.getElem?_range hj];simp [hj]
  · rw[List.getElem?_eq_none (by simp;omega)];simp [hj]
def allI (f:Nat→Row→Bool):Nat→List Row→Bool
  | _,[]=>true
  | i,r :: T=>f i r && allI f (i+1) T
theorem allI_get {f:Nat→Row→Bool}:∀ (T:List Row) (i:Nat),allI f i T=true→∀ (j:Nat) (r:Row),T[j]? = some r→f (i+j) r=true
  | [],i,h,j,r,hj=>by simp at hj
  | r :: T,i,h,j,r',hj=>by
    simp only[allI,Bool.and_eq_true] at h;cases j with
    | zero=>simp only[List.getElem?_cons_zero,Option.some.injEq] at hj;subst hj;exact h.1
    | succ j=>
      simp only[List.getElem?_cons_succ] at hj;have:=allI_get T (i+1) h.2 j r' hj
      rwa [Nat.add_right_comm,Nat.add_assoc] at this
def readyR (mask i:Nat) (r:Row):Bool:=!mask.testBit i && Nat.beq (r.need &&& mask) r.need
def apartR (x y:Row):Bool:=(Nat.beq x.dst 0 || (!y.looks.testBit (x.dst - 1) && !Nat.beq y.dst x.dst)) && (Nat.beq y.dst 0 || !x.looks.testBit (y.dst - 1))
def freeR (T:List Row) (mask k:Nat) (rk:Row):Bool:=allI (fun j r=>Nat.beq j k || mask.testBit j || r.need.testBit k || apartR rk r) 0 T
def blkR (k:Nat):Nat→List Row→Nat→Nat
  | _,[],acc=>acc
  | j,r :: T,acc=>blkR k (j+1) T (bif Nat.beq j k || !Nat.beq (r.need &&& acc) 0 then acc ||| (1 <<< j) else acc)
def blkC (T:List Row) (k B mask W:Nat):Bool:=
  allI (fun j r=>(!B.testBit j || ((Nat.beq j k || !Nat.beq (r.need &&& B) 0) && !mask.testBit j)) && (Nat.beq j k || mask.testBit j || B.testBit j || W.testBit j)) 0 T && Nat.blt B (2 ^ T.length)
def chkX (T:List Row) (W:Nat):List Nat→Nat→(Nat→Bool)→Bool
  | [],mask,f=>f mask
  | k :: r,mask,f=>(match T[k]? with|some rk=>readyR mask k rk && freeR T mask k rk && W.testBit k && (Nat.beq rk.kind 0 || (Nat.beq rk.kind 1 && blkC T k (blkR k 0 T 0) mask W))|none=>false) && chkX T W r (mask ||| (1 <<< k)) f
def chkB (T:List Row):List (Nat×Bool)→Nat→Bool
  | [],mask=>allI (fun j r=>!readyR mask j r) 0 T
  | (k,false) :: r,mask=>(match T[k]? with|some rk=>readyR mask k rk|none=>false) && allI (fun j r=>Nat.beq j k || !readyR mask j r) 0 T && chkB T r (mask ||| (1 <<< k))
  | (k,true) :: r,mask=>(match T[k]? with|some rk=>readyR mask k rk && Nat.beq rk.kind 0 && freeR T mask k rk|none=>false) && chkB T r (mask ||| (1 <<< k))
def chkR (T:List Row) (X:List Nat) (B:List (Nat×Bool)) (ws:List Nat):Bool:=chkX T (maskL X ||| maskL ws) X 0 fun mask=>chkB T B mask
def keepC (l:List Oper) (T:List Row) (X:List Nat) (B:List (Nat×Bool)) (ws:List Nat):Bool:=Region.noSelect l.toArray && tabOk .any l.toArray l.length l T && chkR T X B ws && Nat.beq (X.length+B.length) l.length
def BT.seq:List (Nat×Bool)→BT
  | []=>.done
  | (i,false) :: r=>.one i (BT.seq r)
  | (i,true) :: r=>.free i (BT.seq r)
theorem Zb:BT.seq []=.done:=rfl
theorem Q0 (i:Nat) (r:List (Nat×Bool)):BT.seq ((i,false) :: r)=.one i (BT.seq r):=rfl
theorem QZ (i:Nat) (r:List (Nat×Bool)):BT.seq ((i,true) :: r)=.free i (BT.seq r):=rfl
section
variable {l:List Oper} {T:List Row} {mask:Nat}
theorem ready_iff (ht:tabOk .any l.toArray l.length l T=true) {j:Nat} {r:Row} (hr:T[j]? = some r):(j∈Region.ready .any l.toArray (lst l.length mask)) ↔ readyR mask j r=true:=by
  obtain⟨hlen,hget⟩:=ZB l T ht;have hj:j<l.length:=by rw[← hlen];exact (List.getElem?_eq_some_iff.1 hr).1
  obtain⟨h1,h2⟩:=hget j l[j] (by simp [hj]);rw[hr,Option.some.injEq] at h1;subst h1;rw[mem_ready,lst_getD,if_pos hj];unfold readyR;simp only[Bool.and_eq_true,Bool.not_eq_true',Nat.beq_eq];refine and_congr Iff.rfl ?_
  have hbit:∀ t,(rowOf .any l.toArray l[j]).need.testBit t=true ↔ ∃ e∈l[j].after,Region.binds .any e=true∧e.on=t:=by
    intro t;simp only[rowOf,maskL_bit,List.contains_iff_mem,List.mem_map,List.mem_filter,Array.mem_toList_iff];constructor
    · rintro⟨e,⟨h1,h2⟩,h3⟩;exact⟨e,h1,h2,h3⟩
    · rintro⟨e,h1,h2,h3⟩;exact⟨e,⟨h1,h2⟩,h3⟩
  have hlt:∀ t,(rowOf .any l.toArray l[j]).need.testBit t=true→t<l.length:=by
    intro t ht;rcases Nat.lt_or_ge t l.length with h|h
    · exact h
    · have:=Nat.testBit_lt_two_pow (Nat.lt_of_lt_of_le h2 (Nat.pow_le_pow_right (by omega) h))
      rw[this] at ht;cases ht
  constructor
  · rintro⟨o,ho,hall⟩
    have ho':o=l[j]:=by simpa [hj] using ho.symm
    subst ho';apply Nat.eq_of_testBit_eq;intro t;rw[Nat.testBit_and];cases hb:(rowOf .any l.toArray l[j]).need.testBit t with
    | false=>rfl
    | true=>
      obtain⟨e,he,hbd,hon⟩:=(hbit t).1 hb;have:=hall e he hbd;rw[lst_getD,hon,if_pos (hlt t hb)] at this;rw[this];rfl
  · intro h
    refine⟨l[j],by simp [hj],fun e he hbd=>?_⟩;have hb:=(hbit e.on).2 ⟨e,he,hbd,rfl⟩;have h9:((rowOf .any l.toArray l[j]).need &&& mask).testBit e.on=true:=by rw[h];exact hb
    rw[Nat.testBit_and,hb,Bool.true_and] at h9;rw[lst_getD,if_pos (hlt _ hb)];exact h9
theorem apart_of {x y:Oper} {ops:Array Oper} (h:apartR (rowOf .any ops x) (rowOf .any ops y)=true):x.apart ops y=true:=by
  unfold apartR rowOf dstOf at h;unfold Oper.apart;simp only[maskL_bit,Bool.and_eq_true,Bool.or_eq_true,Nat.beq_eq,Bool.not_eq_true'] at h;obtain⟨h1,h2⟩:=h;simp only[Bool.and_eq_true];refine⟨?_,?_⟩
  · cases hx:x.dst with
    | none=>rfl
    | some d=>
      rw[hx] at h1;simp only[Nat.add_sub_cancel] at h1;rcases h1 with h1|⟨h1,h3⟩
      · omega
      · simp only[Bool.and_eq_true,Bool.not_eq_true',bne_iff_ne]
        refine⟨h1,fun e=>?_⟩;rw[e] at h3;simp at h3
  · cases hy:y.dst with
    | none=>rfl
    | some d=>
      rw[hy] at h2;simp only[Nat.add_sub_cancel] at h2;rcases h2 with h2|h2
      · omega
      · simpa using h2
theorem row_at (ht:tabOk .any l.toArray l.length l T=true) {j:Nat} {o:Oper} (ho:l.toArray[j]? = some o):T[j]? = some (rowOf .any l.toArray o):=((ZB l T ht).2 j o (by simpa using ho)).1
theorem need_bit {ops:Array Oper} {o:Oper} {t:Nat}:(rowOf .any ops o).need.testBit t=true ↔ ∃ e∈o.after,Region.binds .any e=true∧e.on=t:=by
  simp only[rowOf,maskL_bit,List.contains_iff_mem,List.mem_map,List.mem_filter,Array.mem_toList_iff];constructor
  · rintro⟨e,⟨h1,h2⟩,h3⟩;exact⟨e,h1,h2,h3⟩
  · rintro⟨e,h1,h2,h3⟩;exact⟨e,⟨h1,h2⟩,h3⟩
theorem free_of (ht:tabOk .any l.toArray l.length l T=true) {k:Nat} {o:Oper} (ho:l.toArray[k]? = some o) (h:freeR T mask k (rowOf .any l.toArray o)=true):Region.free .any l.toArray (lst l.length mask) k=true:=by
  unfold Region.free;rw[ho];refine List.all_eq_true.2 fun j hj=>?_;have hj':j<l.length:=by simpa using hj
  have hoj:l.toArray[j]? = some l[j]:=by simp [hj']
  have h1:=allI_get T 0 h j _ (row_at ht hoj);rw[Nat.zero_add] at h1;simp only[Bool.or_eq_true,Nat.beq_eq] at h1;simp only[hoj,Bool.or_eq_true,beq_iff_eq,lst_getD,if_pos hj'];rcases h1 with ((h1|h1)|h1)|h1
  · exact .inl (.inl h1)
  · exact .inl (.inr h1)
  · obtain⟨e,he,hb,hon⟩:=need_bit.1 h1
    refine .inr (.inl (Array.any_eq_true'.2 ⟨e,he,by simp [hb,hon]⟩))
  · exact .inr (.inr (apart_of h1))
theorem op_at (ht:tabOk .any l.toArray l.length l T=true) {k:Nat} {r:Row} (hr:T[k]? = some r):∃ o,l.toArray[k]? = some o∧r=rowOf .any l.toArray o:=by
  obtain⟨hlen,hget⟩:=ZB l T ht;have hj:k<l.length:=by rw[← hlen];exact (List.getElem?_eq_some_iff.1 hr).1
  refine⟨l[k],by simp [hj],?_⟩;have:=(hget k l[k] (by simp [hj])).1;rw[hr,Option.some.injEq] at this;exact this
theorem filter_one {p:Nat→Bool} {k:Nat}:∀ n,k<n→(∀ j,j<n→(p j=true ↔ j=k))→(List.range n).filter p=[k]
  | 0,h,_=>by omega
  | n+1,h,hp=>by
    rw[List.range_succ,List.filter_append];by_cases e:k=n
    · subst e
      have:(List.range k).filter p=[]:=List.filter_eq_nil_iff.2 fun j hj=>fun h9=>by
        have hj':j<k:=by simpa using hj
        have:=(hp j (by omega)).1 h9;omega
      rw[this];simp [(hp k (by omega)).2 rfl]
    · rw[filter_one n (by omega) fun j hj=>hp j (by omega)]
      have:p n=false:=by
        cases h9:p n with
        | false=>rfl
        | true=>have:=(hp n (by omega)).1 h9;omega
      simp [this]
theorem ready_one (ht:tabOk .any l.toArray l.length l T=true) {k:Nat} {rk:Row} (hk:T[k]? = some rk) (h1:readyR mask k rk=true) (h2:allI (fun j r=>Nat.beq j k || !readyR mask j r) 0 T=true):Region.ready .any l.toArray (lst l.length mask)=[k]:=by
  obtain⟨hlen,_⟩:=ZB l T ht;have hk':k<l.length:=by rw[← hlen];exact (List.getElem?_eq_some_iff.1 hk).1
  have hm:∀ j,j<l.length→(j∈Region.ready .any l.toArray (lst l.length mask) ↔ j=k):=by
    intro j hj;have hrj:T[j]? = some T[j]:=by simp [hlen,hj]
    rw[ready_iff ht hrj];constructor
    · intro h9
      have:=allI_get T 0 h2 j _ hrj;rw[Nat.zero_add] at this;simp only[Bool.or_eq_true,Nat.beq_eq,Bool.not_eq_true'] at this;rcases this with this|this
      · exact this
      · rw[this] at h9;cases h9
    · rintro rfl
      rw[hk] at hrj;simp only[Option.some.injEq] at hrj;rw[← hrj];exact h1
  unfold Region.ready at hm ⊢;refine filter_one _ (by simpa using hk') fun j hj=>?_;have:=hm j (by simpa using hj);rw[List.mem_filter] at this;simp only[List.mem_range] at this;constructor
  · intro h9;exact this.1 ⟨hj,h9⟩
  · intro h9;exact (this.2 h9).2
theorem ready_none (ht:tabOk .any l.toArray l.length l T=true) (h2:allI (fun j r=>!readyR mask j r) 0 T=true):Region.ready .any l.toArray (lst l.length mask)=[]:=by
  obtain⟨hlen,_⟩:=ZB l T ht;refine List.eq_nil_iff_forall_not_mem.2 fun j hj=>?_
  have hj':j<l.length:=by
    obtain⟨_,o,ho,_⟩:=mem_ready.1 hj
    simpa using (Array.getElem?_eq_some_iff.1 ho).1
  have hrj:T[j]? = some T[j]:=by simp [hlen,hj']
  have:=allI_get T 0 h2 j _ hrj;rw[Nat.zero_add,(ready_iff ht hrj).1 hj] at this;cases this
theorem kind0 {o:Oper} (h:kindB o=0):wless o.op=true:=by
  unfold kindB at h;cases hw:wless o.op with
  | true=>rfl
  | false=>
    rw[hw] at h;cases hl:loadOp o.op<;>rw[hl] at h<;>cases h
theorem chkB_ok (ht:tabOk .any l.toArray l.length l T=true):∀ (B:List (Nat×Bool)) (mask:Nat),chkB T B mask=true→btGo .any l.toArray (BT.seq B) true B.length (lst l.length mask)=true
  | [],mask,h=>by
    simp only[BT.seq,btGo,List.length_nil,beq_self_eq_true,Bool.true_and];rw[ready_none ht h];rfl
  | (k,true) :: r,mask,h=>by
    simp only[chkB,Bool.and_eq_true] at h;obtain⟨h1,h3⟩:=h;cases hk:T[k]? with
    | none=>rw[hk] at h1;cases h1
    | some rk=>
      rw[hk] at h1;obtain⟨o,ho,rfl⟩:=op_at ht hk;simp only[Bool.and_eq_true,Nat.beq_eq] at h1;obtain⟨⟨h1,h4⟩,h5⟩:=h1;simp only[BT.seq,btGo,List.length_cons,Bool.and_eq_true];refine⟨⟨⟨by simpa using (ready_iff ht hk).2 h1,by rw[ho];exact kind0 h4⟩,free_of ht ho h5⟩,?_⟩;rw[lst_set];exact chkB_ok ht r _ h3
  | (k,false) :: r,mask,h=>by
    simp only[chkB,Bool.and_eq_true] at h;obtain⟨⟨h1,h2⟩,h3⟩:=h;cases hk:T[k]? with
    | none=>rw[hk] at h1;cases h1
    | some rk=>
      rw[hk] at h1;obtain⟨o,ho,rfl⟩:=op_at ht hk;simp only[BT.seq,btGo,List.length_cons,Bool.and_eq_true,beq_iff_eq];refine⟨⟨ready_one ht hk h1 h2,by rw[ho];rfl⟩,?_⟩;rw[lst_set];exact chkB_ok ht r _ h3
theorem kind1 {o:Oper} (h:kindB o=1):loadOp o.op=true:=by
  unfold kindB at h;cases hw:wless o.op with
  | true=>rw[hw] at h;cases h
  | false=>
    rw[hw] at h;cases hl:loadOp o.op with
    | false=>rw[hl] at h;cases h
    | true=>rfl
theorem blkC_ok (ht:tabOk .any l.toArray l.length l T=true) (W:Nat→Bool) (Wm:Nat) (hW:∀ j,Wm.testBit j=true→W j=true) {k:Nat} (h6:blkC T k (blkR k 0 T 0) mask Wm=true) :
    ∃ Bl:Nat→Bool,(∀ j oj,l.toArray[j]? = some oj→Bl j=true→j≠k→∃ e∈oj.after,Region.binds .any e=true∧Bl e.on=true)∧(∀ j,Bl j=true→(lst l.length mask).getD j false=false) ∧
      ∀ j,j<l.toArray.size→j=k∨(lst l.length mask).getD j true=true∨Bl j=true∨W j=true:=by
  refine⟨fun j=>(blkR k 0 T 0).testBit j,?_,?_,?_⟩
  · intro j oj hoj hb hne
    simp only[blkC,Bool.and_eq_true] at h6;have h9:=allI_get T 0 h6.1 j _ (row_at ht hoj);rw[Nat.zero_add] at h9;simp only[hb,Bool.and_eq_true,Bool.or_eq_true,Bool.not_true,Bool.false_eq_true,false_or,Nat.beq_eq,hne,Bool.not_eq_true'] at h9
    have hne0:(rowOf .any l.toArray oj).need &&& blkR k 0 T 0≠0:=by
      intro h0;have:=h9.1.1;rw[h0] at this;simp at this
    obtain⟨t,ht'⟩:=Nat.exists_testBit_of_ne_zero hne0;rw[Nat.testBit_and,Bool.and_eq_true] at ht';obtain⟨e,he,hbd,hon⟩:=need_bit.1 ht'.1;exact⟨e,he,hbd,by rw[hon];exact ht'.2⟩
  · intro j hb
    replace hb:(blkR k 0 T 0).testBit j=true:=hb
    simp only[blkC,Bool.and_eq_true,Nat.blt_eq] at h6;obtain⟨hlen,_⟩:=ZB l T ht
    have hj:j<l.length:=by
      rcases Nat.lt_or_ge j l.length with h|h
      · exact h
      · have:=Nat.testBit_lt_two_pow (Nat.lt_of_lt_of_le h6.2 (Nat.pow_le_pow_right (by omega) (by omega:T.length≤j)))
        rw[this] at hb;cases hb
    have hrj:T[j]? = some T[j]:=by simp [hlen,hj]
    have h9:=allI_get T 0 h6.1 j _ hrj;rw[Nat.zero_add] at h9;rw[lst_getD,if_pos hj];simp only[hb,Bool.and_eq_true,Bool.or_eq_true,Bool.not_true,Bool.false_eq_true,false_or,Bool.not_eq_true'] at h9;exact h9.1.2
  · intro j hj
    have hj':j<l.length:=by simpa using hj
    simp only[blkC,Bool.and_eq_true] at h6;obtain⟨hlen,_⟩:=ZB l T ht;have hrj:T[j]? = some T[j]:=by simp [hlen,hj']
    have h9:=allI_get T 0 h6.1 j _ hrj;rw[Nat.zero_add] at h9;simp only[Bool.and_eq_true,Bool.or_eq_true,Nat.beq_eq] at h9;rw[lst_getD,if_pos hj'];rcases h9.2 with ((h9|h9)|h9)|h9
    · exact .inl h9
    · exact .inr (.inl h9)
    · exact .inr (.inr (.inl h9))
    · exact .inr (.inr (.inr (hW j h9)))
theorem chkX_ok (ht:tabOk .any l.toArray l.length l T=true) (W:Nat→Bool) (Wm:Nat) (hW:∀ j,Wm.testBit j=true→W j=true) (bt:BT) (m:Nat) (f:Nat→Bool) (hf:∀ mask,f mask=true→btGo .any l.toArray bt true m (lst l.length mask)=true):∀ (X:List Nat) (mask:Nat),chkX T Wm X mask f=true→PreP .any l.toArray bt m W X (lst l.length mask)
  | [],mask,h=>hf mask h
  | k :: r,mask,h=>by
    simp only[chkX,Bool.and_eq_true] at h;obtain⟨h1,h3⟩:=h;cases hk:T[k]? with
    | none=>rw[hk] at h1;cases h1
    | some rk=>
      rw[hk] at h1;obtain⟨o,ho,rfl⟩:=op_at ht hk;simp only[Bool.and_eq_true,Bool.or_eq_true,Nat.beq_eq] at h1;obtain⟨⟨⟨h1,h5⟩,h4⟩,h6⟩:=h1;refine⟨(ready_iff ht hk).2 h1,free_of ht ho h5,hW k h4,⟨o,ho,h6.imp kind0 fun h9=>⟨kind1 h9.1,blkC_ok ht W Wm hW h9.2⟩⟩,?_⟩;rw[lst_set];exact chkX_ok ht W Wm hW bt m f hf r _ h3
end
section
variable {P:Program} {F:Frm} {l:List Oper} {T:List Row} {Q:Exit→Act→World→Prop} {k:St→Prop} {R0:Nat→Prop} {w0:Org}
theorem QD {K:Exit→St→Prop} {st:St} {id:Nat} {l:List Oper} (T:List Row) (X:List Nat) (B:List (Nat×Bool)) (ws:List Nat) (hm:P.follows .mixedOrders=true) (hB:keepC l T X B ws=true) (hpan:∀ c st,¬ K (.panic c) st)
    (h:∀ k:St→Prop,(∀ st',K .normal st'→k st')→WO P F (l.map (·.dst)) (X.map fun i=>l.getD i default) st fun st2=>WBT P F (l.map (·.dst)) l st.own (keepW X ws) true (BT.seq B) st2 k):Sat P F (.region id l.toArray true) st K:=by
  rintro R0 w0 a w ⟨ob,R,hr⟩;simp only[keepC,chkR,Bool.and_eq_true,Nat.beq_eq] at hB;obtain⟨⟨⟨hsel,ht⟩,hc⟩,hlen⟩:=hB;have hdrew:Grown w { w with drawn:=w.drawn+1 }:=⟨rfl,rfl,rfl,Nat.le_refl _,fun _ _ _=>rfl⟩;refine wp_region_any hm ?_;have hpan':∀ c a w,¬ (fun e a' w'=>∃ st',K e st'∧Rel F R0 w0 st' a' w') (.panic c) a w:=fun c a w ⟨st',hk,_⟩=>hpan c st' hk;have:=keep_sound (P:=P) (F:=F) (R0:=R0) (w0:=w0) (Q:=fun e a' w'=>∃ st',K e st'∧Rel F R0 w0 st' a' w') (k:=K .normal) hpan' hsel X ws (BT.seq B) B.length (lst l.length 0) st a { w with drawn:=w.drawn+1 }
    (chkX_ok ht (keepW X ws) _ (fun j hj=>by rw[Nat.testBit_or,maskL_bit,maskL_bit] at hj;exact hj) (BT.seq B) B.length _ (fun mask hb=>chkB_ok ht B mask hb) X 0 hc)
    (by simpa using h _ fun _ h=>h) ⟨ob,R,hr.grown hdrew⟩ (fun st' a' w' hk hr'=>⟨st',hk,hr'⟩)
  rw[hlen,lst_zero] at this
  simpa using this
theorem Contract.same {f:FuncId} {args:List SV} {post post':SV→Prop} (h:Contract F P f args post) (hp:∀ r,post r→∃ r',sim r r'∧post' r'):Contract F P f args post':=by
  refine⟨h.enters,fun R w hinv hargs hR=>(h.calls R w hinv hargs hR).mono ?_⟩;rintro e w' ⟨r,rfl,hpost,hok,hevo,hinv'⟩;obtain⟨r',hs,hp'⟩:=hp r hpost;exact⟨r',by rw[hs.1],hp',hs.2 _ _ hok,hevo,hinv'⟩
end
end Eng
end Go.Proofs.YtabgkfjfmjdfiaaGreatDoor

namespace Go.Proofs.YtabgkfjfmjdfiaaGreatDoor
namespace Eng
section
variable {P:Program} {F:Frm}
end
end Eng
end Go.Proofs.YtabgkfjfmjdfiaaGreatDoor

namespace Go.Proofs.YtabgkfjfmjdfiaaGreatDoor.Lmb
theorem norm_of_ge {xs:List Int} (h:Qv xs) (hv:xs≠[]→pw (xs.length - 1)≤val xs):Norm xs:=by
  intro x hx hz;subst hz;have hne:xs≠[]:=by rintro rfl;simp at hx
  have hl:=hv hne
  have e:xs=xs.dropLast ++ [0]:=by
    have h1:=List.dropLast_concat_getLast hne;rw[List.getLast?_eq_some_getLast hne,Option.some.injEq] at hx;rw[hx] at h1;exact h1.symm
  have hd:Qv xs.dropLast:=fun y hy=>h y (List.dropLast_subset _ hy);have h2:=val_lt hd;rw[e,val_append] at hl;simp only[Qz,QE,List.length_append,List.length_dropLast,List.length_cons,List.length_nil] at hl h2;have h3:xs.length - 1+(0+1) - 1=xs.length - 1:=by omega
  rw[h3] at hl;simp at hl;omega
structure PlusInv (xs ys os:List Int) (i:Nat) (c:Int):Prop where
  len:os.length=i
  limbs:Qv os
  c0:0≤c
  c1:c≤1
  eq:val os+pw i * c=val (xs.take i)+val (ys.take i)
  tight:i≤max xs.length ys.length∨(i=max xs.length ys.length+1∧c=0∧pw (i - 1)≤val os)
theorem PlusInv.start (xs ys:List Int):PlusInv xs ys [] 0 0:=⟨rfl,QJ,by omega,by omega,by simp [QE],.inl (Nat.zero_le _)⟩
theorem PlusInv.step {xs ys os:List Int} {i:Nat} {c:Int} (h:PlusInv xs ys os i c) (hx:Qv xs) (hy:Qv ys) (hg:i<xs.length∨i<ys.length∨0<c) :
    PlusInv xs ys (os ++ [(xs.getD i 0+ys.getD i 0+c) % 1073741824]) (i+1) ((xs.getD i 0+ys.getD i 0+c) / 1073741824):=by
  have bx:=Qh hx i;have bY:=Qh hy i;have c0:=h.c0;have c1:=h.c1;have e1:=QS xs i;have e2:=QS ys i;have hl:=h.len;generalize ht:xs.getD i 0+ys.getD i 0+c=t;have hd:=Int.emod_add_mul_ediv t 1073741824;refine⟨by simp [hl],?_,by omega,by omega,?_,?_⟩
  · rw[limbs_append]
    refine⟨h.limbs,?_⟩;rw[QB];exact⟨by omega,QJ⟩
  · rw[val_append,e1,e2,hl,QF]
    simp only[Qz,QE,Int.mul_zero,Int.add_zero];have heq:=h.eq
    have k1:pw i * (t % 1073741824)+1073741824 * pw i * (t / 1073741824)=pw i * t:=by
      rw[Int.mul_comm 1073741824,Int.mul_assoc,← Int.mul_add,hd]
    have k2:pw i * t=pw i * xs.getD i 0+pw i * ys.getD i 0+pw i * c:=by rw[← ht,Int.mul_add,Int.mul_add]
    omega
  · rcases h.tight with h1|⟨h1,h2,_⟩
    · by_cases hm:i<max xs.length ys.length
      · exact .inl (by omega)
      · refine .inr ⟨by omega,?_,?_⟩
        · have z1:xs.getD i 0=0:=by simp [List.getD,show xs.length≤i by omega]
          have z2:ys.getD i 0=0:=by simp [List.getD,show ys.length≤i by omega]
          omega
        · have z1:xs.getD i 0=0:=by simp [List.getD,show xs.length≤i by omega]
          have z2:ys.getD i 0=0:=by simp [List.getD,show ys.length≤i by omega]
          have hc:c=1:=by omega
          have htt:t=1:=by omega
          subst htt;rw[val_append,hl];simp only[Qz,QE,Int.mul_zero,Int.add_zero,Nat.add_sub_cancel];have:=Qp h.limbs;have e3:(1:Int) % 1073741824=1:=by decide
          rw[e3,Int.mul_one];omega
    · rcases hg with hg|hg|hg<;>omega
theorem PlusInv.done {xs ys os:List Int} {i m n:Nat} {c:Int} (h:PlusInv xs ys os i c) (hx:Dig xs m) (hy:Dig ys n) (h1:xs.length≤i) (h2:ys.length≤i) (hc:c≤0):Dig os (m+n):=by
  have c0:=h.c0;have hc:c=0:=by omega
  subst hc;have heq:=h.eq;rw[val_take_all _ _ h1,val_take_all _ _ h2,hx.val,hy.val,Int.mul_zero,Int.add_zero] at heq;refine⟨h.limbs,norm_of_ge h.limbs fun hne=>?_,by omega⟩;have hlen:=h.len;have h0:0<os.length:=List.length_pos_iff.2 hne;rcases h.tight with ht|⟨_,_,ht⟩
  · have hi:i=max xs.length ys.length:=by omega
    rw[heq,hlen];rcases Nat.le_total xs.length ys.length with hle|hle
    · have e:i=ys.length:=by omega
      have:¬ (n:Int)<pw (ys.length - 1):=fun hlt=>by have:=(hy.len_le (ys.length - 1)).2 hlt;omega
      rw[e];omega
    · have e:i=xs.length:=by omega
      have:¬ (m:Int)<pw (xs.length - 1):=fun hlt=>by have:=(hx.len_le (xs.length - 1)).2 hlt;omega
      rw[e];omega
  · rwa [hlen]
structure SplitInv (xs qs:List Int) (j:Nat) (n r:Nat):Prop where
  len:qs.length=xs.length
  limbs:Qv qs
  eq:val (xs.drop j)=val (qs.drop j) * n+r
  lt:r<n
theorem SplitInv.start (xs:List Int) {n:Nat} (hn:0<n):SplitInv xs (List.replicate xs.length 0) xs.length n 0:=
  ⟨by simp,QL _,by simp [QE],hn⟩
theorem SplitInv.step {xs qs:List Int} {j n r:Nat} (h:SplitInv xs qs (j+1) n r) (hx:Qv xs) (hj:j<xs.length) {d r':Nat} (hd:(xs.getD j 0).toNat+1073741824 * r=d * n+r') (hr:r'<n) :
    SplitInv xs (qs.set j d) j n r'∧d<1073741824:=by
  have bx:=Qh hx j;have hl:=h.len;have hlt:=h.lt
  have hdl:d<1073741824:=by
    have h1:d * n<1073741824 * n:=by
      have:1073741824 * r+1073741824≤1073741824 * n:=by
        have:=Nat.mul_le_mul_left 1073741824 (Nat.succ_le_of_lt hlt);omega
      omega
    exact Nat.lt_of_mul_lt_mul_right h1
  refine⟨⟨by simpa using hl,QP h.limbs _ _ (by omega),?_,hr⟩,hdl⟩;have hj2:j<qs.length:=by omega
  rw[QK xs j hj,h.eq,QK (qs.set j d) j (by simpa using hj2)];have e1:(qs.set j (d:Int)).getD j 0=d:=by simp [List.getD,hj2]
  have e2:(qs.set j (d:Int)).drop (j+1)=qs.drop (j+1):=List.drop_set_of_lt (by omega);rw[e1,e2,Int.add_mul]
  have e3:xs.getD j 0+1073741824 * (r:Int)=(d:Int) * n+r':=by
    have:=congrArg (Nat.cast (R:=Int)) hd;simp only[Int.natCast_add,Int.natCast_mul] at this;omega
  rw[Int.mul_add,Int.mul_assoc];omega
theorem SplitInv.done {xs qs:List Int} {m n r:Nat} (h:SplitInv xs qs 0 n r) (hx:val xs=m):Dig (trim qs) (m / n)∧r=m % n:=by
  have h1:=h.eq;have hq:=Qp h.limbs;rw[List.drop_zero,List.drop_zero,hx] at h1;obtain⟨q,hq'⟩:=Int.eq_ofNat_of_zero_le hq;rw[hq'] at h1
  have h2:m=q * n+r:=by
    have:(m:Int)=((q * n+r:Nat):Int):=by rw[h1];simp
    omega
  have hn:0<n:=by have:=h.lt;omega
  have e1:m / n=q:=by
    rw[h2,Nat.mul_comm,Nat.mul_add_div hn,Nat.div_eq_of_lt h.lt,Nat.add_zero]
  have e2:m % n=r:=by
    rw[h2,Nat.mul_comm,Nat.mul_add_mod,Nat.mod_eq_of_lt h.lt]
  refine⟨?_,e2.symm⟩;have:=Ze h.limbs;rw[hq'] at this;rw[e1]
  simpa using this
/-! halving,for the greatest common divisor -/
theorem gcd_half {a b:Nat} (ho:Nat.gcd a b % 2=1) (he:a % 2=0):Nat.gcd (a / 2) b=Nat.gcd a b:=by
  obtain⟨c,rfl⟩:∃ c,a=2 * c:=⟨a / 2,by omega⟩;have e:2 * c / 2=c:=by omega
  rw[e];refine Nat.dvd_antisymm ?_ ?_
  · exact Nat.dvd_gcd (Nat.dvd_trans (Nat.gcd_dvd_left c b) (Nat.dvd_mul_left c 2)) (Nat.gcd_dvd_right c b)
  · refine Nat.dvd_gcd ?_ (Nat.gcd_dvd_right _ _)
    have h1:Nat.gcd (2 * c) b ∣ 2 * c:=Nat.gcd_dvd_left _ _
    have h2:Nat.Coprime (Nat.gcd (2 * c) b) 2:=by
      unfold Nat.Coprime;have h3:Nat.gcd (Nat.gcd (2 * c) b) 2 ∣ 2:=Nat.gcd_dvd_right _ _;have h4:Nat.gcd (Nat.gcd (2 * c) b) 2 ∣ Nat.gcd (2 * c) b:=Nat.gcd_dvd_left _ _;have h5:Nat.gcd (Nat.gcd (2 * c) b) 2≤2:=Nat.le_of_dvd (by decide) h3;generalize Nat.gcd (Nat.gcd (2 * c) b) 2=x at h3 h4 h5 ⊢;generalize Nat.gcd (2 * c) b=g at ho h4;obtain⟨y,rfl⟩:=h4;rcases (show x=0∨x=1∨x=2 by omega) with rfl|rfl|rfl
      · simp at ho
      · rfl
      · omega
    exact Nat.Coprime.dvd_of_dvd_mul_left h2 h1
theorem gcd_half' {a b:Nat} (ho:Nat.gcd a b % 2=1) (he:b % 2=0):Nat.gcd a (b / 2)=Nat.gcd a b:=by
  rw[Nat.gcd_comm a,Nat.gcd_comm a];exact gcd_half (by rwa [Nat.gcd_comm]) he
theorem gcd_sub {a b:Nat} (h:b≤a):Nat.gcd (a - b) b=Nat.gcd a b:=by
  obtain⟨c,rfl⟩:=Nat.exists_eq_add_of_le h;rw[Nat.add_sub_cancel_left,Nat.gcd_comm,Nat.gcd_comm (b+c)];simp
theorem gcd_twos {a b:Nat} (ha:a % 2=0) (hb:b % 2=0):2 * Nat.gcd (a / 2) (b / 2)=Nat.gcd a b:=by
  obtain⟨c,rfl⟩:∃ c,a=2 * c:=⟨a / 2,by omega⟩;obtain⟨d,rfl⟩:∃ d,b=2 * d:=⟨b / 2,by omega⟩;rw[show 2 * c / 2=c by omega,show 2 * d / 2=d by omega,Nat.gcd_mul_left]
theorem gcd_odd {a b:Nat} (h:¬ (a % 2=0∧b % 2=0)):Nat.gcd a b % 2=1:=by
  rcases Nat.mod_two_eq_zero_or_one (Nat.gcd a b) with h0|h0
  · exfalso
    have h2:2 ∣ Nat.gcd a b:=Nat.dvd_of_mod_eq_zero h0;exact h ⟨Nat.mod_eq_zero_of_dvd (Nat.dvd_trans h2 (Nat.gcd_dvd_left a b)),Nat.mod_eq_zero_of_dvd (Nat.dvd_trans h2 (Nat.gcd_dvd_right a b))⟩
  · exact h0
theorem even_limb {xs:List Int} {n:Nat} (h:Dig xs n):xs.getD 0 0 % 2=((n % 2:Nat):Int):=by
  have hv:=h.val;cases xs with
  | nil=>
    rw[QE] at hv;obtain rfl:n=0:=by omega
    rfl
  | cons x r=>
    rw[Qz] at hv;simp only[List.getD_cons_zero];omega
/-! difference -/
def dI (x:Int):Int:=if x<0 then x+1073741824 else x
def cI (x:Int):Int:=if x<0 then 1 else 0
structure LessInv (xs ys os:List Int) (i:Nat) (c:Int):Prop where
  len:os.length=i
  limbs:Qv os
  c0:0≤c
  c1:c≤1
  eq:val os - pw i * c=val (xs.take i) - val (ys.take i)
theorem LessInv.start (xs ys:List Int):LessInv xs ys [] 0 0:=⟨rfl,QJ,by omega,by omega,by simp [QE]⟩
theorem LessInv.step {xs ys os:List Int} {i:Nat} {c:Int} (h:LessInv xs ys os i c) (hx:Qv xs) (hy:Qv ys) :
    LessInv xs ys (os ++ [dI (xs.getD i 0 - ys.getD i 0 - c)]) (i+1) (cI (xs.getD i 0 - ys.getD i 0 - c)):=by
  have bx:=Qh hx i;have bY:=Qh hy i;have c0:=h.c0;have c1:=h.c1;have e1:=QS xs i;have e2:=QS ys i;have hl:=h.len;generalize ht:xs.getD i 0 - ys.getD i 0 - c=t;have hd:dI t - 1073741824 * cI t=t:=by unfold dI cI;split<;>omega
  have hd0:0≤dI t∧dI t<1073741824:=by unfold dI;split<;>omega
  have hc:0≤cI t∧cI t≤1:=by unfold cI;split<;>omega
  refine⟨by simp [hl],?_,hc.1,hc.2,?_⟩
  · rw[limbs_append]
    refine⟨h.limbs,?_⟩;rw[QB];exact⟨hd0,QJ⟩
  · rw[val_append,e1,e2,hl,QF]
    simp only[Qz,QE,Int.mul_zero,Int.add_zero];have heq:=h.eq
    have k1:pw i * dI t - 1073741824 * pw i * cI t=pw i * t:=by
      rw[Int.mul_comm 1073741824,Int.mul_assoc,← Int.mul_sub,hd]
    have k2:pw i * t=pw i * xs.getD i 0 - pw i * ys.getD i 0 - pw i * c:=by rw[← ht,Int.mul_sub,Int.mul_sub]
    omega
theorem LessInv.done {xs ys os:List Int} {m n:Nat} {c:Int} (h:LessInv xs ys os xs.length c) (hx:Dig xs m) (hy:Dig ys n) (hle:n≤m):(val os).toNat=m - n:=by
  have hlen:=hy.mono_len hx hle;have heq:=h.eq;have hlt:=val_lt h.limbs;have c0:=h.c0;have c1:=h.c1;rw[h.len] at hlt;rw[val_take_all _ _ (Nat.le_refl _),val_take_all _ _ hlen,hx.val,hy.val] at heq;rcases (show c=0∨c=1 by omega) with rfl|rfl
  · rw[Int.mul_zero] at heq
    omega
  · rw[Int.mul_one] at heq
    omega
end Go.Proofs.YtabgkfjfmjdfiaaGreatDoor.Lmb

namespace Go.Proofs.YtabgkfjfmjdfiaaGreatDoor
namespace Eng
variable {P:Program} {F:Frm}
theorem Sat.boxBools {c:Code} {K:Exit→St→Prop} {n:Nat} {env:List (Nat×SV)} {own:List Own} (id:Nat) {blk ty:Nat} {cs:List SV} (hl:own[id]? = some (.box blk ty cs))
    (h:Sat P F c ⟨n,env,own.set id (.box blk ty (cs.map roB))⟩ K):Sat P F c ⟨n,env,own⟩ K:=by
  rintro R0 w0 a w ⟨ob,R,hr⟩;refine h R0 w0 a w ⟨ob,R,?_⟩;have hbox:=hr.own id _ hl;have hidl:id<own.length:=(List.getElem?_eq_some_iff.1 hl).1
  have hden:(cs.map roB).map SV.den=cs.map SV.den:=by
    rw[List.map_map];exact List.map_congr_left fun s _=>roB_den s
  have hok:(Own.box blk ty (cs.map roB)).ok R ob w:=by
    refine⟨hbox.1,hbox.2.1,by rw[hden];exact hbox.2.2.1,fun x hx=>?_⟩;obtain⟨s,hs,rfl⟩:=List.mem_map.1 hx;obtain⟨h1,h2⟩:=hbox.2.2.2 s hs;refine⟨by rw[roB_den];exact h1,?_⟩;cases s<;>first|exact h2|trivial
  refine⟨hr.defers,hr.env,hr.size,?_,?_,hr.evo,hr.inv,hr.obM,?_,hr.obw,hr.rr,hr.r0⟩
  · intro i x hx
    rw[List.getElem?_set] at hx;split at hx
    · simp only[hidl,if_true,Option.some.injEq] at hx
      subst hx;exact hok
    · exact hr.own i x hx
  · intro i k x y hik hx hy b hb1 hb2
    rw[List.getElem?_set] at hx hy;split at hx<;>split at hy
    · omega
    · rename_i e1 _
      subst e1;simp only[hidl,if_true,Option.some.injEq] at hx;subst hx;exact hr.dist id k _ y hik hl hy b hb1 hb2
    · rename_i _ e1
      subst e1;simp only[hidl,if_true,Option.some.injEq] at hy;subst hy;exact hr.dist i id x _ hik hx hl b hb1 hb2
    · exact hr.dist i k x y hik hx hy b hb1 hb2
  · exact gb_set (m:=w0.w.heap.size) (Nat.le_refl _) hr.gb hl fun b hb=>.inl hb
end Eng
end Go.Proofs.YtabgkfjfmjdfiaaGreatDoor

namespace Go.Proofs.YtabgkfjfmjdfiaaGreatDoor
namespace Eng
def IterAt (blk:Nat) (s:ByteArray) (pos:Nat) (w:World):Prop:=w.heap[blk]? = some (.stringIter s pos)
theorem run_next_at {P:Program} (w:World) (blk:Nat) (s:ByteArray) (pos:Nat) (ty:TypeId) (hw:w.heap[blk]? = some (.stringIter s pos)) (h:pos<s.size) (ha:(s[pos]'h).toNat<128) :
    (Instr.next (.pointer (some ⟨blk,0,none⟩)) true ty).run P w=.ok (.tuple #[.bool true,.int .i64 pos,.int .i32 (s[pos]'h).toNat]) { w with heap:=w.heap.setIfInBounds blk (.stringIter s (pos+1)) }:=by
  simp only[Instr.next,getObj,setObj,Sem.run_bind,Sem.run,hw,Result.andThen,h,if_true,decode_ascii s pos h ha];simp [goInt,Sem.run,hw]
theorem run_next_over {P:Program} (w:World) (blk:Nat) (s:ByteArray) (pos:Nat) (ty:TypeId) (hw:w.heap[blk]? = some (.stringIter s pos)) (h:¬ pos<s.size) :
    (Instr.next (.pointer (some ⟨blk,0,none⟩)) true ty).run P w=.ok (.tuple #[.bool false]) w:=by
  simp [Instr.next,getObj,Sem.run,hw,h]
variable {P:Program}
theorem Sat.region_next {F:Frm} {n:Nat} {env:List (Nat×SV)} {own:List Own} {K:Exit→St→Prop} {id:Nat} {rest:List Oper} {d it:Tmp} {ty:TypeId} {posn:String} {aft:Array Edge} {blk oid pos:Nat} {s:ByteArray} (hd:d<n)
    (hit:look env it=some (.v (.pointer (some ⟨blk,0,none⟩)))) (ho:own[oid]? = some (.res blk (IterAt blk s pos))) (hasc:∀ h:pos<s.size,(s[pos]'h).toNat<128)
    (h1:∀ h:pos<s.size,∀ k:St→Prop,(∀ st',K .normal st'→k st')→WO P F ((⟨some d,.next (.tmp it) true,ty,posn,aft,none⟩ :: rest).map (·.dst)) rest ⟨n,(d,.tup 3 fun j=>[SV.b true,.i .i64 pos,.i .i32 (s[pos]'h).toNat].getD j default) :: env,own.set oid (.res blk (IterAt blk s (pos+1)))⟩ k)
    (h2:¬ pos<s.size→∀ k:St→Prop,(∀ st',K .normal st'→k st')→WO P F ((⟨some d,.next (.tmp it) true,ty,posn,aft,none⟩ :: rest).map (·.dst)) rest ⟨n,(d,.tup 1 fun j=>[SV.b false].getD j default) :: env,own⟩ k) :
    Sat P F (.region id (⟨some d,.next (.tmp it) true,ty,posn,aft,none⟩ :: rest).toArray false) ⟨n,env,own⟩ K:=by
  intro R0 w0 a w hr;refine wp_region_lit ?_;unfold wpList;rw[if_pos (by simp [Region.wanted])];refine .inl ?_;obtain⟨ob,R,hrr⟩:=hr;have hown:=hrr.own oid _ ho;obtain⟨b1,b2,b3,b4⟩:=hown;have hit':a.eval (.tmp it)=.pointer (some ⟨blk,0,none⟩):=(Qo hrr.env (x:=.tmp it) hit).1;have hblk:w.heap[blk]? = some (.stringIter s pos):=b4 w fun _ _=>rfl;unfold Oper.wp;by_cases hp:pos<s.size
  · have hrun:=run_next_at (P:=P) w blk s pos ty hblk hp (hasc hp)
    have hop:(execOp a.eval ⟨some d,.next (.tmp it) true,ty,posn,aft,none⟩).run P w=.ok (.value (.tuple #[.bool true,.int .i64 pos,.int .i32 (s[pos]'hp).toNat])) { w with heap:=w.heap.setIfInBounds blk (.stringIter s (pos+1)) }:=by
      simp [execOp,hit',hrun]
    rw[hop];have hsz:w.heap.size≤(w.heap.setIfInBounds blk (.stringIter s (pos+1))).size:=by simp
    have hnew:RelR F R0 w0 ob R ⟨n,env,own.set oid (.res blk (IterAt blk s (pos+1)))⟩ a { w with heap:=w.heap.setIfInBounds blk (.stringIter s (pos+1)) }:=
      hrr.setOwn (g:=blk) ho rfl (fun b hb=>by simpa [Own.blk] using hb.symm) rfl rfl rfl hsz (fun b hb hne=>by simp [Array.getElem?_setIfInBounds,Ne.symm hne])
        ⟨b1,b2,by simpa using b3,fun w' hw'=>by
          have:=hw' blk (.inr rfl);unfold IterAt;rw[this]
          simp [Array.getElem?_setIfInBounds,b3]⟩
    have hput:=hnew.put (d:=some d) (s:=.tup 3 fun j=>[SV.b true,.i .i64 pos,.i .i32 (s[pos]'hp).toNat].getD j default) (fun t ht=>by cases ht;exact hd) (fun j hj=>by
      rcases (show j=0∨j=1∨j=2 by omega) with rfl|rfl|rfl<;>trivial)
    exact wo_sound (Q:=fun e a1 w1=>∃ st1,K e st1∧Rel F R0 w0 st1 a1 w1) (ops:=(⟨some d,.next (.tmp it) true,ty,posn,aft,none⟩ :: rest).toArray) (k:=K .normal) rest _ _ _ (by rw[List.toList_toArray];exact h1 hp _ fun _ h=>h) ⟨ob,R,hput⟩ fun st' a' w' hk hr'=>⟨st',hk,hr'⟩
  · have hrun:=run_next_over (P:=P) w blk s pos ty hblk hp
    have hop:(execOp a.eval ⟨some d,.next (.tmp it) true,ty,posn,aft,none⟩).run P w=.ok (.value (.tuple #[.bool false])) w:=by
      simp [execOp,hit',hrun]
    rw[hop]
    have hput:=hrr.put (d:=some d) (s:=.tup 1 fun j=>[SV.b false].getD j default) (fun t ht=>by cases ht;exact hd) (fun j hj=>by
      obtain rfl:j=0:=by omega
      trivial)
    exact wo_sound (Q:=fun e a1 w1=>∃ st1,K e st1∧Rel F R0 w0 st1 a1 w1) (ops:=(⟨some d,.next (.tmp it) true,ty,posn,aft,none⟩ :: rest).toArray) (k:=K .normal) rest _ _ _ (by rw[List.toList_toArray];exact h2 hp _ fun _ h=>h) ⟨ob,R,hput⟩ fun st' a' w' hk hr'=>⟨st',hk,hr'⟩
theorem Sat.region_range {F:Frm} {n:Nat} {env:List (Nat×SV)} {own:List Own} {K:Exit→St→Prop} {id:Nat} {d e x:Tmp} {t ty0 ty1:TypeId} {p0 p1:String} {aft0 aft1:Array Edge} {s:ByteArray} (hd:d<n) (he:e<n)
    (ht:P.underlying t=some .string) (hx:look env x=some (.v (.string s)))
    (h:∀ blk,K .normal ⟨n,(e,.v (.pointer (some ⟨blk,0,none⟩))) :: (d,.v (.string s)) :: env,own ++ [.res blk (IterAt blk s 0)]⟩) :
    Sat P F (.region id #[⟨some d,.move (.tmp x),ty0,p0,aft0,none⟩,⟨some e,.range t (.tmp d),ty1,p1,aft1,none⟩] false) ⟨n,env,own⟩ K:=by
  intro R0 w0 a w hr;refine wp_region_lit ?_;obtain⟨ob,R,hrr⟩:=hr;have hx':a.eval (.tmp x)=.string s:=(Qo hrr.env (x:=.tmp x) hx).1;unfold wpList;rw[if_pos (by simp [Region.wanted])];refine .inl ?_;unfold Oper.wp
  have hop:(execOp a.eval ⟨some d,.move (.tmp x),ty0,p0,aft0,none⟩).run P w=.ok (.value (.string s)) w:=by
    simp [execOp,hx']
  rw[hop];have hput:=hrr.put (d:=some d) (s:=.v (.string s)) (fun t ht=>by cases ht;exact hd) trivial;have hd':(a.put (some d) (.string s)).eval (.tmp d)=.string s:=(Qo hput.env (x:=.tmp d) (s:=.v (.string s)) (by simp [ev,St.put,look])).1;show wpList P _ _ [_] (a.put (some d) (.string s)) w;unfold wpList;rw[if_pos (by simp [Region.wanted])];refine .inl ?_;unfold Oper.wp
  have hop2:(execOp (a.put (some d) (.string s)).eval ⟨some e,.range t (.tmp d),ty1,p1,aft1,none⟩).run P w=.ok (.value (.pointer (some ⟨w.heap.size,0,none⟩))) (w.iter s 0):=by
    have:=run_range_string (P:=P) w t s ht;simp [execOp,hd',this]
  rw[hop2]
  have hg:w.grownBy (w.iter s 0) none:=⟨rfl,rfl,rfl,(by show w.heap.size≤(w.heap.push _).size;simp),fun b hb _=>by
    show (w.heap.push _)[b]? = _
    rw[Array.getElem?_push,if_neg (by omega)]⟩
  have hnew:=hput.newRow (o:=.res w.heap.size (IterAt w.heap.size s 0)) hg (fun b hb=>by simpa [Own.blk] using hb.symm) ⟨hput.obw,fun hc=>by have:=(hput.rr _ hc).1;omega,(by show w.heap.size<(w.heap.push _).size;simp),fun w' hw'=>by
    unfold IterAt
    rw[hw' _ (.inr rfl),World.iter_heap]⟩
  have hput2:=hnew.put (d:=some e) (s:=.v (.pointer (some ⟨w.heap.size,0,none⟩))) (fun t ht=>by cases ht;exact he) trivial;exact⟨_,h w.heap.size,ob,R,hput2⟩
end Eng
end Go.Proofs.YtabgkfjfmjdfiaaGreatDoor

namespace Go.Proofs.YtabgkfjfmjdfiaaGreatDoor
namespace Eng
theorem Sat.settleLeafF {P:Program} {F:Frm} {n:Nat} {env:List (Nat×SV)} {own:List Own} {c:Code} {K:Exit→St→Prop} (id j:Nat) {blk ty id2 len cap e sz:Nat} {ad:Option Addr} {cs:List SV} {rd:Nat→Nat→SV}
    (hb:own[id]? = some (.box blk ty cs)) (hj:cs[j]? = some (.os id2 ad len cap)) (h2:own[id2]? = some (.row ad e len cap sz rd))
    (h:Sat P F c ⟨n,env,(own.set id2 (.frz ad len cap sz rd)).set id (.box blk ty (cs.set j (.sl ad len cap sz rd)))⟩ K):Sat P F c ⟨n,env,own⟩ K:=by
  rintro R0 w0 a w ⟨ob,R,hr⟩;have hf:frz own [.os id2 ad len cap]=own.set id2 (.frz ad len cap sz rd):=by simp [frz,frzOne,h2]
  have hne:id2≠id:=fun e=>by subst e;rw[hb] at h2;cases h2
  have hlt2:id2<own.length:=(List.getElem?_eq_some_iff.1 h2).1;obtain⟨R',hRR,hr'⟩:=hr.frz [.os id2 ad len cap];rw[hf] at hr';have hb':(own.set id2 (.frz ad len cap sz rd))[id]? = some (.box blk ty cs):=by rw[List.getElem?_set_ne hne];exact hb
  have h2':(own.set id2 (.frz ad len cap sz rd))[id2]? = some (.frz ad len cap sz rd):=by rw[List.getElem?_set_self hlt2]
  obtain⟨g1,g2,g3,g4⟩:=hr'.own id _ hb';have hfz:(SV.sl ad len cap sz rd).ok R' w:=hr'.own id2 _ h2';refine h R0 w0 a w ⟨ob,R',?_⟩;have hjl:j<cs.length:=(List.getElem?_eq_some_iff.1 hj).1
  have hden:(cs.set j (.sl ad len cap sz rd)).map SV.den=cs.map SV.den:=by
    apply List.ext_getElem?;intro q;rw[List.getElem?_map,List.getElem?_map,List.getElem?_set];split
    · rename_i e
      subst e;simp only[hjl,if_true,hj,Option.map_some];rfl
    · rfl
  refine hr'.setOwn (g:=blk) hb' rfl (fun b hb=>by simpa [Own.blk] using hb.symm) rfl rfl rfl (Nat.le_refl _) (fun _ _ _=>rfl) ⟨g1,g2,by rw[hden];exact g3,fun c' hc'=>?_⟩;rcases List.mem_or_eq_of_mem_set hc' with hc'|rfl
  · exact g4 c' hc'
  · exact⟨rfl,hfz⟩
end Eng
end Go.Proofs.YtabgkfjfmjdfiaaGreatDoor

namespace Go.Proofs.YtabgkfjfmjdfiaaGreatDoor
namespace Eng
def inL (j:Nat):List Nat→Bool
  | []=>false
  | i :: l=>Nat.beq j i || inL j l
theorem inL_mem {j:Nat}:∀ {l:List Nat},inL j l=true→j∈l
  | i :: l,h=>by
    simp only[inL,Bool.or_eq_true,Nat.beq_eq] at h;rcases h with rfl|h
    · exact .head _
    · exact .tail _ (inL_mem h)
def chkBT (T:List Row):BT→Bool→Nat→Nat→Bool
  | .done,_,m,mask=>Nat.beq m 0 && allI (fun j r=>!readyR mask j r) 0 T
  | .free k t,_,m+1,mask=>(match T[k]? with|some rk=>readyR mask k rk && Nat.beq rk.kind 0 && freeR T mask k rk|none=>false) && chkBT T t true m (mask ||| (1 <<< k))
  | .one k t,_,m+1,mask=>(match T[k]? with|some rk=>readyR mask k rk|none=>false) && allI (fun j r=>Nat.beq j k || !readyR mask j r) 0 T && chkBT T t true m (mask ||| (1 <<< k))
  | .alt i t r,top,m+1,mask=>(!top || allI (fun j rr=>!readyR mask j rr || inL j (i :: r.heads)) 0 T) && (match T[i]? with|some ri=>readyR mask i ri|none=>false) && chkBT T t true m (mask ||| (1 <<< i)) && chkBT T r false (m+1) mask
  | .none,top,_,_=>!top
  | _,_,_,_=>false
section
variable {l:List Oper} {T:List Row} {mask:Nat}
theorem chkBT_ok (ht:tabOk .any l.toArray l.length l T=true):∀ (B:BT) (top:Bool) (m mask:Nat),chkBT T B top m mask=true→btGo .any l.toArray B top m (lst l.length mask)=true
  | .done,top,m,mask,h=>by
    simp only[chkBT,Bool.and_eq_true,Nat.beq_eq] at h;simp only[btGo,Bool.and_eq_true,beq_iff_eq];refine⟨h.1,?_⟩;rw[ready_none ht h.2];rfl
  | .free k t,top,0,mask,h=>by simp [chkBT] at h
  | .one k t,top,0,mask,h=>by simp [chkBT] at h
  | .alt i t r,top,0,mask,h=>by simp [chkBT] at h
  | .none,top,m,mask,h=>by simpa [chkBT,btGo] using h
  | .free k t,top,m+1,mask,h=>by
    simp only[chkBT,Bool.and_eq_true] at h;obtain⟨h1,h3⟩:=h;cases hk:T[k]? with
    | none=>rw[hk] at h1;cases h1
    | some rk=>
      rw[hk] at h1;obtain⟨o,ho,rfl⟩:=op_at ht hk;simp only[Bool.and_eq_true,Nat.beq_eq] at h1;obtain⟨⟨h1,h4⟩,h5⟩:=h1;simp only[btGo,Bool.and_eq_true];refine⟨⟨⟨by simpa using (ready_iff ht hk).2 h1,by rw[ho];exact kind0 h4⟩,free_of ht ho h5⟩,?_⟩;rw[lst_set];exact chkBT_ok ht t _ _ _ h3
  | .one k t,top,m+1,mask,h=>by
    simp only[chkBT,Bool.and_eq_true] at h;obtain⟨⟨h1,h2⟩,h3⟩:=h;cases hk:T[k]? with
    | none=>rw[hk] at h1;cases h1
    | some rk=>
      rw[hk] at h1;obtain⟨o,ho,rfl⟩:=op_at ht hk;simp only[btGo,Bool.and_eq_true,beq_iff_eq];refine⟨⟨ready_one ht hk h1 h2,by rw[ho];rfl⟩,?_⟩;rw[lst_set];exact chkBT_ok ht t _ _ _ h3
  | .alt i t r,top,m+1,mask,h=>by
    simp only[chkBT,Bool.and_eq_true] at h;obtain⟨⟨⟨h1,h2⟩,h3⟩,h4⟩:=h;cases hi:T[i]? with
    | none=>rw[hi] at h2;cases h2
    | some ri=>
      rw[hi] at h2;have hmem:=(ready_iff ht hi).2 h2;obtain⟨o,ho,_⟩:=op_at ht hi;simp only[btGo,Bool.and_eq_true];refine⟨⟨⟨⟨?_,?_⟩,by rw[ho];rfl⟩,by rw[lst_set];exact chkBT_ok ht t _ _ _ h3⟩,chkBT_ok ht r _ _ _ h4⟩
      · cases top with
        | false=>rfl
        | true=>
          simp only[Bool.not_true,Bool.false_or] at h1 ⊢;rw[List.all_eq_true];intro j hj;cases hTj:T[j]? with
          | none=>
            obtain⟨hlen,_⟩:=ZB l T ht
            have hlt:j<l.length:=by
              obtain⟨_,o,ho,_⟩:=mem_ready.1 hj
              simpa using (Array.getElem?_eq_some_iff.1 ho).1
            rw[List.getElem?_eq_none_iff] at hTj;omega
          | some rj=>
            have g:=allI_get T 0 h1 j rj hTj;rw[Nat.zero_add,(ready_iff ht hTj).1 hj] at g;simp only[Bool.not_true,Bool.false_or] at g
            simpa using inL_mem g
      · cases hr:Region.ready .any l.toArray (lst l.length mask) with
        | nil=>rw[hr] at hmem;cases hmem
        | cons a b=>rfl
end
def keepBT (l:List Oper) (T:List Row) (X:List Nat) (B:BT) (m:Nat) (ws:List Nat):Bool:=Region.noSelect l.toArray && tabOk .any l.toArray l.length l T && chkX T (maskL X ||| maskL ws) X 0 (fun mask=>chkBT T B true m mask) && Nat.beq (X.length+m) l.length
section
variable {P:Program} {F:Frm} {l:List Oper} {T:List Row} {Q:Exit→Act→World→Prop} {k:St→Prop} {R0:Nat→Prop} {w0:Org}
theorem Sat.region_bt {K:Exit→St→Prop} {st:St} {id:Nat} {l:List Oper} (T:List Row) (X:List Nat) (B:BT) (m:Nat) (ws:List Nat) (hm:P.follows .mixedOrders=true) (hB:keepBT l T X B m ws=true) (hpan:∀ c st,¬ K (.panic c) st)
    (h:∀ k:St→Prop,(∀ st',K .normal st'→k st')→WO P F (l.map (·.dst)) (X.map fun i=>l.getD i default) st fun st2=>WBT P F (l.map (·.dst)) l st.own (keepW X ws) true B st2 k):Sat P F (.region id l.toArray true) st K:=by
  rintro R0 w0 a w ⟨ob,R,hr⟩;simp only[keepBT,Bool.and_eq_true,Nat.beq_eq] at hB;obtain⟨⟨⟨hsel,ht⟩,hc⟩,hlen⟩:=hB;have hdrew:Grown w { w with drawn:=w.drawn+1 }:=⟨rfl,rfl,rfl,Nat.le_refl _,fun _ _ _=>rfl⟩;refine wp_region_any hm ?_;have hpan':∀ c a w,¬ (fun e a' w'=>∃ st',K e st'∧Rel F R0 w0 st' a' w') (.panic c) a w:=fun c a w ⟨st',hk,_⟩=>hpan c st' hk;have:=keep_sound (P:=P) (F:=F) (R0:=R0) (w0:=w0) (Q:=fun e a' w'=>∃ st',K e st'∧Rel F R0 w0 st' a' w') (k:=K .normal) hpan' hsel X ws B m (lst l.length 0) st a { w with drawn:=w.drawn+1 }
    (chkX_ok ht (keepW X ws) _ (fun j hj=>by rw[Nat.testBit_or,maskL_bit,maskL_bit] at hj;exact hj) B m _ (fun mask hb=>chkBT_ok ht B true m mask hb) X 0 hc)
    (by simpa using h _ fun _ h=>h) ⟨ob,R,hr.grown hdrew⟩ (fun st' a' w' hk hr'=>⟨st',hk,hr'⟩)
  rw[hlen,lst_zero] at this
  simpa using this
end
end Eng
end Go.Proofs.YtabgkfjfmjdfiaaGreatDoor
