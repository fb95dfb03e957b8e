import Derived.Test.YtfeiiadligkamaaGreatPoE
import Derived.Test.YtfeiiadligkamaaGreatTreMath
set_option linter.unusedSimpArgs false
set_option linter.unusedVariables false
namespace Go.Proofs.YtfeiiadligkamaaGreat
open Eng
def insL {α:Type} (ys:List α) (k:Nat) (r:α):List α:=ys.take k ++ r :: ys.drop k
theorem insL_len {α:Type} {ys:List α} {k:Nat} {r:α} (h:k≤ys.length):(insL ys k r).length=ys.length+1:=by
 unfold insL;rw[List.length_append,List.length_cons,List.length_take,List.length_drop];omega
theorem insL_mem {α:Type} {ys:List α} {k:Nat} {r x:α}:x∈insL ys k r ↔ x∈ys∨x=r:=by
 unfold insL;have h:x∈ys ↔ x∈ys.take k∨x∈ys.drop k:=by rw[← List.mem_append,List.take_append_drop]
 rw[List.mem_append,List.mem_cons,h];constructor
 ·rintro (h|h|h)
  ·exact .inl (.inl h)
  ·exact .inr h
  ·exact .inl (.inr h)
 ·rintro ((h|h)|h)
  ·exact .inl h
  ·exact .inr (.inr h)
  ·exact .inr (.inl h)
theorem insL_get {α:Type} [Inhabited α] {ys:List α} {k:Nat} {r:α} (hk:k≤ys.length) (i:Nat):(insL ys k r).toArray[i]! = if i<k then ys.toArray[i]! else if i=k then r else ys.toArray[i - 1]! := by
 have hl:(ys.take k).length=k:=by rw[List.length_take];omega
 unfold insL;simp only[getElem!_def,List.getElem?_toArray,List.getElem?_append,hl];by_cases h:i<k
 ·simp [h,List.getElem?_take]
 ·rw[if_neg h,if_neg h];by_cases e:i=k
  ·subst e;simp
  ·obtain⟨q,rfl⟩:∃ q,i=k+1+q:=⟨i - k - 1,by omega⟩;rw[if_neg e,show k+1+q - k=q+1 by omega,List.getElem?_cons_succ,List.getElem?_drop,show k+1+q - 1=k+q by omega]
theorem ins_rd {α:Type} [Inhabited α] (cs:α→List SV) (sz:Nat) (hcs:∀ x,(cs x).length=sz) {ys:List α} {k n:Nat} {r r0:α} (hk:k≤ys.length) (hn:n=ys.length - k) :
  rdEq (ys.length+1) sz (Z8 (Xj (k+1) k n (Zb ys.length (fun i j=>(cs ys.toArray[i]!).getD j default) (rdL (cs r0) sz))) k 0 (cs r)) (fun i j=>(cs (insL ys k r).toArray[i]!).getD j default):=by
 intro i j hi hj;show _=(cs (insL ys k r).toArray[i]!).getD j default;rw[insL_get hk];unfold Z8 Xj Zb Z0;subst hn;by_cases e:i=k
 ·subst e;rw[if_pos ⟨rfl,Nat.zero_le _,by rw[hcs];omega⟩,if_neg (Nat.lt_irrefl _),if_pos rfl];rfl
 ·rw[if_neg (fun h=>e h.1),if_neg e];by_cases h:i<k
  ·rw[if_pos (show i<k+1 by omega),if_pos (show i<ys.length by omega),if_pos h]
  ·rw[if_neg (show ¬ i<k+1 by omega),if_pos (show i - (k+1)<ys.length - k by omega),if_neg h];show (if k+(i - (k+1))<ys.length then (cs ys.toArray[k+(i - (k+1))]!).getD j default else _)=_;rw[if_pos (show k+(i - (k+1))<ys.length by omega)];rw[show k+(i - (k+1))=i - 1 by omega]
theorem ord_ins {xs ys:List Res} {i k:Nat} {r:Res} (ho:OrdOf (xs.take i) ys) (hi:i<xs.length) (hr:xs[i]=r) (hv:QH r=true) (hk:k≤ys.length)
  (h1:∀ q,q<k→Xb ys.toArray[q]! r=true) (h2:∀ q,k≤q→q<ys.length→Xb r ys.toArray[q]! = true):OrdOf (xs.take (i+1)) (insL ys k r):=by
 refine⟨?_,fun x=>?_⟩
 ·unfold insL;have ha:(ys.take k ++ ys.drop k).Pairwise fun a b=>Xb a b=true:=by rw[List.take_append_drop];exact ho.1
  obtain⟨p1,p2,p3⟩:=List.pairwise_append.1 ha
  have m1:∀ x∈ys.take k,Xb x r=true:=by
   intro x hx;obtain⟨q,hq,rfl⟩:=List.getElem_of_mem hx;rw[List.length_take] at hq;have:=h1 q (by omega);rw[getB (by omega)] at this;rw[List.getElem_take];exact this
  have m2:∀ x∈ys.drop k,Xb r x=true:=by
   intro x hx;obtain⟨q,hq,rfl⟩:=List.getElem_of_mem hx;rw[List.length_drop] at hq;have:=h2 (k+q) (by omega) (by omega);rw[getB (by omega)] at this;rw[List.getElem_drop];exact this
  refine List.pairwise_append.2 ⟨p1,List.pairwise_cons.2 ⟨m2,p2⟩,fun x hx y hy=>?_⟩;rcases List.mem_cons.1 hy with rfl|hy
  ·exact m1 x hx
  ·exact p3 x hx y hy
 ·rw[insL_mem,ho.2 x,List.take_succ_eq_append_getElem hi,List.mem_append,List.mem_singleton,hr];constructor
  ·rintro (⟨a,b⟩|rfl)
   ·exact⟨.inl a,b⟩
   ·exact⟨.inr rfl,hv⟩
  ·rintro⟨a|a,b⟩
   ·exact .inl ⟨a,b⟩
   ·exact .inr a
theorem ord_skip {xs ys:List Res} {i:Nat} {r:Res} (ho:OrdOf (xs.take i) ys) (hi:i<xs.length) (hr:xs[i]=r) (hm:QH r=true→r∈ys):OrdOf (xs.take (i+1)) ys:=by
 refine⟨ho.1,fun x=>?_⟩;rw[ho.2 x,List.take_succ_eq_append_getElem hi,List.mem_append,List.mem_singleton,hr];constructor
 ·rintro⟨a,b⟩;exact⟨.inl a,b⟩
 ·rintro⟨a|a,b⟩
  ·exact⟨a,b⟩
  ·subst a;exact (ho.2 x).1 (hm b)
theorem wCompare_in {a b:Res} (h1:RgR a) (h2:RgR b):QL a b=ZY a b:=by
 unfold QL ZY;rw[wkeys_in h1.1 h1.2,wkeys_in h2.1 h2.2]
theorem pthCompare_pos {a b:Res}:0<ZY a b ↔ Xb b a=true:=by
 unfold Xb;rw[pthCompare_neg a b];simp
theorem asc_lt {ys:List Res} (h:Asc ys) {p q:Nat} (hpq:p<q) (hq:q<ys.length):Xb ys.toArray[p]! ys.toArray[q]! = true:=by
 rw[getB hq,getB (show p<ys.length by omega)];exact List.pairwise_iff_getElem.1 h p q (by omega) hq hpq
end Go.Proofs.YtfeiiadligkamaaGreat
