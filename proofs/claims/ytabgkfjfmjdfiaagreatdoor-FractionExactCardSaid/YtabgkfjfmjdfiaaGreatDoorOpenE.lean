import Derived.Test.YtabgkfjfmjdfiaaGreatDoorPk2
import Derived.Test.YtabgkfjfmjdfiaaGreatDoorMem
import Derived.OpenShut
import Derived.ChangeArms
import Derived.ChangeSame
set_option linter.unusedSimpArgs false
set_option linter.unusedVariables false
namespace Go.Proofs.YtabgkfjfmjdfiaaGreatDoor
namespace Eng
open Go.WideShapes Go.ChangeShapes
def contig (P:Program):Nat→List Field→Option Nat
  | off,[]=>some off
  | off,f :: fs=>if f.offset=off then contig P (off+P.cellsOf f.type) fs else none
def serv (P:Program):Nat→TypeId→Bool
  | 0,_=>false
  | D+1,t=>
    match P.underlying t with
    | some .bool=>P.cellsOf t == 1
    | some (.int _)=>P.cellsOf t == 1
    | some .string=>P.cellsOf t == 1
    | some (.slice e)=>(serv P D e && P.cellsOf t == 1) && P.cellsOf e != 0
    | some (.struct fs)=>fs.toList.all (fun f=>serv P D f.type) && (contig P 0 fs.toList == some (P.cellsOf t))
    | _=>false
def Sh (P:Program):Nat→TypeId→List SV→Prop
  | 0,_,_=>False
  | D+1,t,l=>
    match P.underlying t with
    | some .bool=>∃ b,l=[.b b]
    | some (.int k)=>∃ n,l=[.i k n]∧(Lit.int k n).wf=true
    | some .string=>∃ s,l=[.v (.string s)]∧s.size≤maxLen
    | some (.slice e)=>∃ a len cap rd,l=[.sl a len cap (P.cellsOf e) rd]∧∀ i,i<len→Sh P D e ((List.range (P.cellsOf e)).map (rd i))
    | some (.struct fs)=>l.length=P.cellsOf t∧∀ f∈fs.toList,Sh P D f.type ((l.drop f.offset).take (P.cellsOf f.type))
    | _=>False
def Came (w:World) (l:List SV):Prop:=∀ s∈l,s.ok (fun b=>b<w.heap.size) w∧s.den.oneCell'=true
variable {H:Type} {enc:TypeId×Value→H} {P:Program} {w:World} {spare:Nat→Bool} {held:Bool}
theorem map_range_getD (l:List SV):(List.range l.length).map (fun j=>l.getD j default)=l:=by
  apply List.ext_getElem?;intro i;by_cases h:i<l.length
  · simp [h,List.getD]
  · simp [h]
theorem came_nil (w:World):Came w []:=fun s hs=>by cases hs
theorem came_one {w:World} {s:SV} (h:s.ok (fun b=>b<w.heap.size) w) (h1:s.den.oneCell'=true):Came w [s]:=fun s' hs=>by obtain rfl:=List.mem_singleton.1 hs;exact⟨h,h1⟩
theorem open_fields {D n:Nat} {cs:List Value} (ih:∀ t,serv P D t=true→∀ fuel cs x,DataW.trod enc P w 0 spare held fuel t cs=some x→∃ l:List SV,l.map SV.den=cs∧Came w l∧Sh P D t l∧l.length=P.cellsOf t) :
    ∀ (fs:List Field) (off e:Nat),fs.all (fun f=>serv P D f.type)=true→contig P off fs=some e→e=cs.length→(∀ f∈fs,∃ x,DataW.trod enc P w 0 spare held n f.type ((cs.drop f.offset).take (P.cellsOf f.type))=some x) →
      ∃ l:List SV,l.map SV.den=cs.drop off∧Came w l∧(∀ f∈fs,off≤f.offset∧Sh P D f.type ((l.drop (f.offset - off)).take (P.cellsOf f.type)))
  | [],off,e,_,hc,he,_=>by
    simp only[contig,Option.some.injEq] at hc;exact⟨[],by simp;omega,came_nil w,(fun f hf=>by cases hf)⟩
  | f :: fs,off,e,hs,hc,he,h=>by
    simp only[contig] at hc;split at hc
    · rename_i ho
      simp only[List.all_cons,Bool.and_eq_true] at hs;obtain⟨x,hx⟩:=h f (by simp);obtain⟨l1,h1,h2,h3,h4⟩:=ih f.type hs.1 n _ x hx;obtain⟨l2,g1,g2,g3⟩:=open_fields ih fs (off+P.cellsOf f.type) e hs.2 hc he (fun g hg=>h g (by simp [hg]));refine⟨l1 ++ l2,?_,?_,?_⟩
      · rw[List.map_append,h1,g1,ho,← List.drop_drop]
        exact List.take_append_drop _ _
      · intro s hs
        rcases List.mem_append.1 hs with hs|hs
        · exact h2 s hs
        · exact g2 s hs
      · intro g hg
        rcases List.mem_cons.1 hg with rfl|hg
        · refine⟨by omega,?_⟩
          rw[ho,Nat.sub_self,List.drop_zero,List.take_append_of_le_length (by omega),List.take_of_length_le (by omega)];exact h3
        · obtain⟨k1,k2⟩:=g3 g hg
          refine⟨by omega,?_⟩;rw[List.drop_append,List.drop_eq_nil_of_le (by omega),List.nil_append,show g.offset - off - l1.length=g.offset - (off+P.cellsOf f.type) by omega];exact k2
    · cases hc
theorem open_sh:∀ (D:Nat) (t:TypeId),serv P D t=true→∀ (fuel:Nat) (cs:List Value) (x:DataW H×List MemPlace),DataW.trod enc P w 0 spare held fuel t cs=some x →
    ∃ l:List SV,l.map SV.den=cs∧Came w l∧Sh P D t l∧l.length=P.cellsOf t
  | 0,_,h,_,_,_,_=>by simp [serv] at h
  | D+1,t,hs,fuel,cs,x,h=>by
    unfold serv at hs;unfold Sh;cases hu:P.underlying t with
    | none=>simp [hu] at hs
    | some kd=>
      cases kd
      case bool=>
        obtain⟨b,rfl,rfl⟩:=DataW.trod_bool hu h;exact⟨[.b b],rfl,came_one trivial rfl,⟨b,rfl⟩,by simp only[hu,beq_iff_eq] at hs;rw[hs];rfl⟩
      case int k=>
        obtain⟨m,rfl,rfl,hw⟩:=DataW.trod_int hu h;exact⟨[.i k m],rfl,came_one trivial rfl,⟨m,rfl,hw⟩,by simp only[hu,beq_iff_eq] at hs;rw[hs];rfl⟩
      case string=>
        obtain⟨s,rfl,rfl,hw⟩:=DataW.trod_string hu h;exact⟨[.v (.string s)],rfl,came_one trivial rfl,⟨s,rfl,hw⟩,by simp only[hu,beq_iff_eq] at hs;rw[hs];rfl⟩
      case slice e=>
        simp only[hu,Bool.and_eq_true,beq_iff_eq,bne_iff_ne] at hs;obtain⟨hs,hz⟩:=hs;rcases DataW.trod_slice hu h with ⟨rfl,rfl⟩|⟨a,len,cap,elems,rest,n,rfl,rfl,rfl,hb,hl,hm,hlen,hel,_,_⟩
        · exact⟨[.sl none 0 0 (P.cellsOf e) default],rfl,came_one ⟨Nat.le_refl _,Nat.zero_le _,.inl rfl⟩ rfl,⟨none,0,0,default,rfl,fun i hi=>by omega⟩,by rw[hs.2];rfl⟩
        · have each:∀ i,i<len→∃ l:List SV,(∃ cs,w.cells? 0 (a.add (i * P.cellsOf e)) (P.cellsOf e)=some cs∧l.map SV.den=cs)∧Came w l∧Sh P D e l∧l.length=P.cellsOf e:=fun i hi=>by
            have h1:=hel i hi;obtain⟨y,hy⟩:∃ y,elems[i]? = some y:=⟨elems[i]'(by omega),by simp⟩;rw[hy,Option.bind_eq_some_iff] at h1;obtain⟨cs,h2,h3⟩:=h1;obtain⟨l,g1,g2,g3,g4⟩:=open_sh D e hs.1 n cs y h3;exact⟨l,⟨cs,h2,g1⟩,g2,g3,g4⟩
          have pick:∀ i,∃ l:List SV,i<len→(∃ cs,w.cells? 0 (a.add (i * P.cellsOf e)) (P.cellsOf e)=some cs∧l.map SV.den=cs)∧Came w l∧Sh P D e l∧l.length=P.cellsOf e:=fun i=>by
            by_cases hi:i<len
            · obtain⟨l,h⟩:=each i hi;exact⟨l,fun _=>h⟩
            · exact⟨[],fun h=>absurd h hi⟩
          obtain⟨rd,hrd⟩:=Classical.axiomOfChoice pick;refine⟨[.sl (some a) len cap (P.cellsOf e) fun i j=>(rd i).getD j default],rfl,came_one ⟨hl,hm,?_⟩ rfl,⟨some a,len,cap,_,rfl,fun i hi=>?_⟩,by rw[hs.2];rfl⟩
          · by_cases h0:len=0
            · exact .inl h0
            · · obtain⟨blk,off,spot⟩:=a
                have cell:∀ i j,i<len→j<P.cellsOf e→∃ s,(rd i)[j]? = some s∧w.cell? ((Addr.mk blk off spot).add (i * P.cellsOf e+j))=some s.den∧s.den.oneCell'=true∧s.ok (fun b=>b<w.heap.size) w:=fun i j hi hj=>by
                  obtain⟨⟨cs,h1,h2⟩,h3,h4,h5⟩:=hrd i hi;obtain⟨_,k1,k2⟩:=World.cells?_some h1;have hj':j<(rd i).length:=by omega
                  refine⟨(rd i)[j],by simp,?_,(h3 _ (List.getElem_mem hj')).2,(h3 _ (List.getElem_mem hj')).1⟩;have h6:=k2 j hj;rw[← h2] at h6;rw[show (Addr.mk blk off spot).add (i * P.cellsOf e+j)=((Addr.mk blk off spot).add (i * P.cellsOf e)).add j by rw[Addr.add_add],h6];simp [hj']
                obtain⟨s0,_,hc0,_⟩:=cell 0 0 (by omega) (by omega);have hspot:spot=none:=by simpa [Addr.add] using World.cell?_spot hc0
                subst hspot;refine .inr ⟨blk,off,rfl,by simpa [Addr.add] using World.block_lt_of_cell? w _ hc0,fun i j hi hj=>?_⟩;obtain⟨s,h1,h2,h3,h4⟩:=cell i j hi hj;rw[Addr.add_lit,← Nat.add_assoc] at h2
                have:(rd i).getD j default=s:=by simp [List.getD,h1]
                show _=some ((rd i).getD j default).den∧((rd i).getD j default).den.oneCell'=true∧_;simp only[this];exact⟨h2,h3,h4⟩
          · have h5:=(hrd i hi).2.2.2
            rw[← h5,map_range_getD];exact (hrd i hi).2.2.1
      case struct fs=>
        simp only[hu,Bool.and_eq_true,beq_iff_eq] at hs;obtain⟨xs,n,rfl,rfl,hl,hlen,hf⟩:=DataW.trod_struct hu h
        obtain⟨l,h1,h2,h3⟩:=open_fields (n:=n) (cs:=cs) (fun t ht fuel cs x hx=>open_sh D t ht fuel cs x hx) fs.toList 0 _ hs.1 hs.2 hl.symm (fun f hf'=>by
          obtain⟨i,hi,rfl⟩:=List.getElem_of_mem hf';have hi':i<xs.length:=by rw[hlen];simpa using hi
          exact⟨xs[i],by rw[hf i _ (by simp)];simp⟩)
        have hll:l.length=P.cellsOf t:=by rw[← hl,← List.length_map (f:=SV.den),h1];simp
        exact⟨l,by simpa using h1,h2,⟨hll,fun f hf=>by simpa using (h3 f hf).2⟩,hll⟩
      all_goals (simp [hu] at hs)
def valS (P:Program) (t:TypeId) (l:List SV):SV:=match P.underlying t with|some (.struct _)=>.agg l.length (fun j=>l.getD j default)|_=>l.headD default
theorem open_val2 {D:Nat} {t:TypeId} {v:Value} {d:DataW H} {ps:List MemPlace} {base:Nat} (hs:serv P D t=true) (hv:Value.okWide P w .any base t v) (h:DataW.Trod enc P w 0 spare held t v d ps) :
    ∃ l,v=(valS P t l).den∧Came w l∧Sh P D t l∧(∀ s,valS P t l=s→s.ok (fun b=>b<w.heap.size) w)∧l.map SV.den=v.cells.toList:=by
  obtain⟨fuel,h⟩:=h;obtain⟨l,h1,h2,h3,h4⟩:=open_sh D t hs fuel _ _ h;refine⟨l,?_,h2,h3,?_,h1⟩
  · unfold valS
    cases D with
    | zero=>simp [serv] at hs
    | succ D=>
    unfold serv at hs
    have one:v.cells.toList=[v]→(match P.underlying t with|some (.struct _)=>False|_=>True)→v=(match P.underlying t with|some (.struct _)=>SV.agg l.length (fun j=>l.getD j default)|_=>l.headD default).den:=fun hc hn=>by
      rw[hc] at h1
      obtain⟨s,rfl⟩:∃ s,l=[s]:=by
        match l,h1 with
        | [s],_=>exact⟨s,rfl⟩
      simp only[List.map_cons,List.map_nil,List.cons.injEq,and_true] at h1;split
      · rename_i hu;rw[hu] at hn;exact hn.elim
      · exact h1.symm
    cases hu:P.underlying t with
    | none=>simp [hu] at hs
    | some kd=>
      rw[hu] at one;cases kd
      case bool=>obtain⟨b,rfl⟩:=okWide_bool hu hv;exact one rfl trivial
      case int k=>obtain⟨b,rfl⟩:=okWide_int hu hv;exact one rfl trivial
      case string=>obtain⟨b,rfl⟩:=okWide_string hu hv;exact one rfl trivial
      case slice e=>obtain⟨a,b,c,rfl⟩:=okWide_slice hu hv;exact one rfl trivial
      case struct fs=>
        obtain⟨cs,rfl,_⟩:=okWide_struct hu hv;simp only[Value.cells] at h1;simp only[SV.den]
        congr 1
        apply Array.toList_inj.1;rw[← h1,List.toList_toArray]
        conv=>lhs;rw[← map_range_getD l]
        rw[List.map_map];rfl
      all_goals (simp [hu] at hs)
  · rintro s rfl
    unfold valS;split
    · intro j hj
      have:l.getD j default=l[j]:=by simp [List.getD,hj]
      show SV.ok _ _ (l.getD j default);rw[this];exact (h2 _ (List.getElem_mem hj)).1
    · cases l with
      | nil=>trivial
      | cons s l=>exact (h2 s (by simp)).1
theorem open_val {D:Nat} {t:TypeId} {v:Value} {d:DataW H} {ps:List MemPlace} {base:Nat} (hs:serv P D t=true) (hv:Value.okWide P w .any base t v) (h:DataW.Trod enc P w 0 spare held t v d ps) :
    ∃ l,v=(valS P t l).den∧Came w l∧Sh P D t l∧(∀ s,valS P t l=s→s.ok (fun b=>b<w.heap.size) w):=by
  obtain⟨l,h1,h2,h3,h4,_⟩:=open_val2 hs hv h;exact⟨l,h1,h2,h3,h4⟩
/-! ### What a shape says -/
theorem sh_int {D:Nat} {t:TypeId} {k:IntKind} {l:List SV} (hu:P.underlying t=some (.int k)) (h:Sh P (D+1) t l):∃ n,l=[.i k n]∧(Lit.int k n).wf=true:=by
  unfold Sh at h;rw[hu] at h;exact h
theorem sh_bool {D:Nat} {t:TypeId} {l:List SV} (hu:P.underlying t=some .bool) (h:Sh P (D+1) t l):∃ b,l=[.b b]:=by
  unfold Sh at h;rw[hu] at h;exact h
theorem sh_string {D:Nat} {t:TypeId} {l:List SV} (hu:P.underlying t=some .string) (h:Sh P (D+1) t l):∃ s,l=[.v (.string s)]∧s.size≤maxLen:=by
  unfold Sh at h;rw[hu] at h;exact h
theorem sh_struct {D:Nat} {t:TypeId} {fs:Array Field} {l:List SV} (hu:P.underlying t=some (.struct fs)) (h:Sh P (D+1) t l):l.length=P.cellsOf t∧∀ f∈fs.toList,Sh P D f.type ((l.drop f.offset).take (P.cellsOf f.type)):=by
  unfold Sh at h;rw[hu] at h;exact h
theorem sh_slice {A:Type} [Inhabited A] (cs:A→List SV) (Q:A→Prop) {D sz:Nat} {t e:TypeId} {l:List SV} (hu:P.underlying t=some (.slice e)) (hc:P.cellsOf e=sz) (hel:∀ l,Sh P D e l→∃ x:A,l=cs x∧Q x) (h:Sh P (D+1) t l) :
    ∃ (a:Option Addr) (cap:Nat) (xs:List A) (rd:Nat→Nat→SV),l=[.sl a xs.length cap sz rd]∧(∀ x∈xs,Q x)∧rdEq xs.length sz rd (fun i j=>(cs (xs.getD i default)).getD j default):=by
  unfold Sh at h;rw[hu] at h;obtain⟨a,len,cap,rd,rfl,h⟩:=h;rw[hc] at h
  have pick:∀ i,∃ x:A,i<len→(List.range sz).map (rd i)=cs x∧Q x:=fun i=>by
    by_cases hi:i<len
    · rw[← hc] at h ⊢
      obtain⟨x,h1,h2⟩:=hel _ (h i hi);exact⟨x,fun _=>⟨h1,h2⟩⟩
    · exact⟨default,fun h=>absurd h hi⟩
  obtain⟨f,hf⟩:=Classical.axiomOfChoice pick;refine⟨a,cap,(List.range len).map f,rd,by simp [hc],fun x hx=>?_,fun i j hi hj=>?_⟩
  · obtain⟨i,hi,rfl⟩:=List.mem_map.1 hx
    exact (hf i (List.mem_range.1 hi)).2
  · have hi':i<len:=by simpa using hi
    have:((List.range len).map f).getD i default=f i:=by simp [List.getD,hi']
    show rd i j=(cs (((List.range len).map f).getD i default)).getD j default;rw[this,← (hf i hi').1];simp [List.getD,hj]
theorem sh_ints {D:Nat} {t e:TypeId} {k:IntKind} {l:List SV} (hu:P.underlying t=some (.slice e)) (he:P.underlying e=some (.int k)) (hc:P.cellsOf e=1) (h:Sh P (D+2) t l) :
    ∃ (a:Option Addr) (cap:Nat) (z:List Int) (rd:Nat→Nat→SV),l=[.sl a z.length cap 1 rd]∧(∀ n∈z,(Lit.int k n).wf=true)∧rdEq z.length 1 rd (fun i _=>.i k (z.getD i 0)):=by
  obtain⟨a,cap,xs,rd,h1,h2,h3⟩:=sh_slice (fun n:Int=>[SV.i k n]) (fun n=>(Lit.int k n).wf=true) hu hc (fun l h=>sh_int he h) h;refine⟨a,cap,xs,rd,h1,h2,fun i j hi hj=>?_⟩;obtain rfl:j=0:=by omega
  rw[h3 i 0 hi hj];rfl
theorem valS_one {t:TypeId} {s:SV} (h:(match P.underlying t with|some (.struct _)=>false|_=>true)=true):valS P t [s]=s:=by
  unfold valS;split
  · rename_i hu;rw[hu] at h;cases h
  · rfl
end Eng
end Go.Proofs.YtabgkfjfmjdfiaaGreatDoor
