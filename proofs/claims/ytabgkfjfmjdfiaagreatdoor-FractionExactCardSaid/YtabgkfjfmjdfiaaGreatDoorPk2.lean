import Derived.Test.YtabgkfjfmjdfiaaGreatDoorPk1
import Derived.Laws.BytesString
import Derived.Laws.OwnMore
import Derived.Lib.AppendZeros
import Derived.Laws.CopyRow
import Derived.Laws.IdiomCopy
import Derived.Lib.ConvBytes
import Derived.Scope
import Derived.Deep.LoopGhost
import Derived.IntWalk
import Derived.StillTail
import Derived.WalkKit
import Derived.Carry
import Derived.Deep.Draws
set_option linter.unusedSimpArgs false
set_option linter.unusedVariables false
namespace Go.Proofs.YtabgkfjfmjdfiaaGreatDoor
namespace Eng
inductive VR where
  | val (s:SV)
  | cond (p:Prop) (r:VR)
  | fail
def VR.holds (K:SV→Prop):VR→Prop
  | .val s=>K s
  | .cond p r=>p∧r.holds K
  | .fail=>False
def rOpt:Option SV→VR
  | some s=>.val s
  | none=>.fail
def rPick (c x y:Option SV):VR:=
  match c with
  | some .tt=>rOpt x
  | some .ff=>rOpt y
  | some (.b q)=>(match x,y with
    | some s,some t=>(match toB s,toB t with|some p,some r=>.val (.b (bif q then p else r))|_,_=>.fail)
    | _,_=>.fail)
  | _=>.fail
def rIbin (op:BinOp) (k:IntKind) (x y:Int):VR:=
  match op with
  | .add=>.val (.i k (k.wrap (x+y)))
  | .sub=>.val (.i k (k.wrap (x - y)))
  | .mul=>.val (.i k (k.wrap (x * y)))
  | .quo=>.cond (y≠0) (.val (.i k (k.wrap (x.tdiv y))))
  | .rem=>.cond (y≠0) (.val (.i k (x.tmod y)))
  | .and=>.val (.i k (bits .and k x y))
  | .or=>.val (.i k (bits .or k x y))
  | .xor=>.val (.i k (bits .xor k x y))
  | .andNot=>.val (.i k (bits .andNot k x y))
  | .eql=>.val (.b (x == y))
  | .neq=>.val (.b (x != y))
  | .lss=>.val (.b (decide (x<y)))
  | .leq=>.val (.b (decide (x≤y)))
  | .gtr=>.val (.b (decide (y<x)))
  | .geq=>.val (.b (decide (y≤x)))
  | _=>.fail
def rBin (P:Program) (xt:TypeId) (op:BinOp) (x y:Option SV):VR:=
  match x,y with
  | some (.i k p),some (.i k' q)=>
    (match op with
    | .shl=>.cond (0≤q) (.val (.i k (k.wrap (p * 2 ^ (min q.toNat k.bits)))))
    | .shr=>.cond (0≤q) (.val (.i k (p.fdiv (2 ^ (min q.toNat k.bits)))))
    | _=>.cond (k=k') (rIbin op k p q))
  | some s,some t=>rOpt (wideB P xt op s t)
  | _,_=>.fail
def nilC:Operand→Bool
  | .const .nilIface=>true
  | _=>false
theorem nilC_tmp (t:Tmp):nilC (.tmp t)=false:=rfl
theorem nilC_int (k:IntKind) (n:Int):nilC (.const (.int k n))=false:=rfl
theorem nilC_bool (b:Bool):nilC (.const (.bool b))=false:=rfl
theorem nilC_string (b:ByteArray):nilC (.const (.string b))=false:=rfl
theorem nilC_slice (a:Option Addr) (l c:Nat):nilC (.const (.slice a l c))=false:=rfl
theorem nilC_nil:nilC (.const .nilIface)=true:=rfl
theorem nilC_ptr (a:Option Addr):nilC (.const (.pointer a))=false:=rfl
theorem nilC_map (a:Option Nat):nilC (.const (.map a))=false:=rfl
theorem nilC_func:nilC (.const .nilFunc)=false:=rfl
theorem nilC_global (g:Nat):nilC (.global g)=false:=rfl
theorem nilC_fn (f:FuncId):nilC (.func f)=false:=rfl
def isIf (P:Program) (t:TypeId):Bool:=match P.underlying t with|some (.interface _)=>true|_=>false
def rNil (P:Program) (t:TypeId) (op:BinOp) (x:Option SV):VR:=
  match x with
  | some (.v .nilIface)=>.cond (isIf P t=true) (rOpt (eqB op (some true)))
  | some (.v (.iface _ _))=>.cond (isIf P t=true) (rOpt (eqB op (some false)))
  | _=>.fail
def rBinN (P:Program) (t:TypeId) (op:BinOp) (x y:Option SV) (q:Bool):VR:=
  match q with
  | true=>rNil P t op x
  | false=>rBin P t op x y
theorem ZE {P:Program} {t:TypeId} (h:isIf P t=true) (x:Value) (b:Bool) (hx:(x=.nilIface∧b=true)∨(∃ u y,x=.iface u y)∧b=false) (w:World):(Op.equal t x .nilIface).run P w=.ok b w:=by
  unfold isIf at h;split at h
  · rename_i m hu
    unfold Op.equal;show (Op.equalIn (9999+1) t x .nilIface).run P w=_;rw[Op.equalIn];rcases hx with ⟨rfl,rfl⟩|⟨⟨u,y,rfl⟩,rfl⟩<;>simp [run_underlying hu]
  · cases h
theorem nilC_eq {y:Operand} (h:nilC y=true):y=.const .nilIface:=by
  unfold nilC at h;split at h
  · rfl
  · cases h
theorem vNil_ok {P:Program} {st:St} {op:BinOp} {xt yt:TypeId} {x y:Operand} {K:SV→Prop} (hq:nilC y=true) (h:(rNil P xt op (ev st.env x)).holds K):Vok P st (.binOp op xt x y yt) K:=by
  obtain rfl:=nilC_eq hq
  have key:∀ (vx:Value) (b:Bool),ev st.env x=some (.v vx)→isIf P xt=true→((vx=.nilIface∧b=true)∨(∃ u z,vx=.iface u z)∧b=false)→(rOpt (eqB op (some b))).holds K→Vok P st (.binOp op xt x (.const .nilIface) yt) K:=by
    intro vx b hx hi hv hh
    have hg:∀ w,(eqGuard op xt x (.const .nilIface) vx .nilIface).run P w=.ok () w:=by
      intro w;rcases hv with ⟨rfl,rfl⟩|⟨⟨u,z,rfl⟩,rfl⟩<;>simp [eqGuard]<;>split<;>rfl
    have hc:∀ a:Act,a.eval (.const .nilIface)=.nilIface:=fun _=>rfl
    have e1:∀ w,(binOp .eql xt vx .nilIface).run P w=.ok (.bool b) w:=by
      intro w;rcases hv with ⟨rfl,rfl⟩|⟨⟨u,z,rfl⟩,rfl⟩
      · simp only[binOp,Sem.run_bind,ZE hi _ _ (.inl ⟨rfl,rfl⟩)];rfl
      · simp only[binOp,Sem.run_bind,ZE hi _ _ (.inr ⟨⟨_,_,rfl⟩,rfl⟩)];rfl
    have e2:∀ w,(binOp .neq xt vx .nilIface).run P w=.ok (.bool (!b)) w:=by
      intro w;rcases hv with ⟨rfl,rfl⟩|⟨⟨u,z,rfl⟩,rfl⟩
      · simp only[binOp,Sem.run_bind,ZE hi _ _ (.inl ⟨rfl,rfl⟩)];rfl
      · simp only[binOp,Sem.run_bind,ZE hi _ _ (.inr ⟨⟨_,_,rfl⟩,rfl⟩)];rfl
    unfold eqB at hh;split at hh
    · rename_i r hr
      cases hr
      refine⟨_,hh,fun R B a w he _=>⟨trivial,yall fun w o ho=>?_⟩⟩;have h1:=(Qo he hx).1;unfold execOp;rw[ho];simp only[h1,hc,SV.den,Sem.run_bind,hg,Result.andThen_ok,e1,Sem.run_pure]
    · rename_i r hr
      cases hr
      refine⟨_,hh,fun R B a w he _=>⟨trivial,yall fun w o ho=>?_⟩⟩;have h1:=(Qo he hx).1;unfold execOp;rw[ho];simp only[h1,hc,SV.den,Sem.run_bind,hg,Result.andThen_ok,e2,Sem.run_pure]
    · exact hh.elim
  unfold rNil at h;split at h
  · rename_i hx
    exact key _ true hx h.1 (.inl ⟨rfl,rfl⟩) h.2
  · rename_i u z hx
    exact key _ false hx h.1 (.inr ⟨⟨_,_,rfl⟩,rfl⟩) h.2
  · exact h.elim
def rUn (op:UnOp) (x:Option SV):VR:=
  match op,x with
  | .not,some .tt=>.val .ff
  | .not,some .ff=>.val .tt
  | .not,some (.b q)=>.val (.b (!q))
  | .neg,some (.i k n)=>.val (.i k (k.wrap (0 - n)))
  | .xor,some (.i k n)=>.val (.i k (flipB k n))
  | _,_=>.fail
def bytesOf (ns:List Int):ByteArray:=ns.foldl (fun r n=>r.push (UInt8.ofNat n.toNat)) ByteArray.empty
def intOf:SV→Int
  | .i _ n=>n
  | _=>0
def strRd (r:Option (Option Addr×Nat×Nat×Nat×(Nat→Nat→SV))):VR:=
  match r with
  | some (_,len,_,sz,rd)=>.cond (sz=1∧∀ i,i<len→∃ m,rd i 0=.i .u8 m) (.val (.v (.string (bytesOf ((List.range len).map fun i=>intOf (rd i 0))))))
  | none=>.fail
def rConv (P:Program) (own:List Own) (src dst:TK) (x:Option SV):VR:=
  match src,dst,x with
  | .slice e,.str,some s=>.cond (tk P e=.int .u8) (strRd (asAny own s))
  | .int _,.int k,some (.i _ n)=>.val (.i k (k.wrap n))
  | .str,.str,some (.v (.string s))=>.val (.v (.string s))
  | _,_,_=>.fail
def rExtract (x:Option SV) (ix:Nat):VR:=
  match x with
  | some (.tup n rd)=>.cond (ix<n) (.val (rd ix))
  | _=>.fail
def Zf (P:Program) (f:Option (Nat×TypeId)) (x:Option SV):VR:=
  match f with
  | some (off,ft)=>.cond (0<tsz P ft) (match x with
    | some (.el a n rd)=>.cond (off+tsz P ft≤n) (.val (.el (a.add off) (tsz P ft) (fun j=>rd (off+j))))
    | some (.op id blk o)=>.val (.op id blk (o+off))
    | some (.oe id blk o ix j)=>.val (.oe id blk (o+off) ix (j+off))
    | _=>.fail)
  | none=>.fail
def Q4 (P:Program) (own:List Own) (t:TK) (x ix:Option SV):VR:=
  match t,x,ix with
  | .slice e,some s,some (.i _ n)=>
    (match asRead own s with
    | some (a,len,_,sz,rd)=>.cond (0≤n∧n<(len:Int)) (.cond (tsz P e=sz∧0<sz) (.val (.el ((a.getD default).add (n.toNat * sz)) sz (fun j=>rd n.toNat j))))
    | none=>match s with
      | .os id a len cap=>(match own[id]? with
        | some (.row a' _ len' cap' sz _)=>.cond (a'=a∧len'=len∧cap'=cap) (.cond (0≤n∧n<(len:Int)) (.cond (tsz P e=sz∧0<sz) (.val (.oe id (a.getD default).block (n.toNat * sz) n.toNat 0))))
        | _=>.fail)
      | .ow id a sz0 off len cap=>(match own[id]? with
        | some (.row a' _ len' cap' sz _)=>.cond (a'=a∧sz0=sz∧len'=off+len∧cap'=off+cap) (.cond (0≤n∧n<(len:Int)) (.cond (tsz P e=sz∧0<sz) (.val (.oe id (a.getD default).block ((off+n.toNat) * sz) (off+n.toNat) 0))))
        | _=>.fail)
      | _=>.fail)
  | .array len e,some (.op id blk o),some (.i _ n)=>.cond (0≤n∧n<(len:Int)) (.cond (0<tsz P e) (.val (.op id blk (o+n.toNat * tsz P e))))
  | .array len e,some (.el a m rd),some (.i _ n)=>.cond (0≤n∧n<(len:Int)) (.cond (0<tsz P e) (.cond (len * tsz P e≤m) (.val (.el (a.add (n.toNat * tsz P e)) (tsz P e) (fun j=>rd (n.toNat * tsz P e+j))))))
  | _,_,_=>.fail
def Zo (x:Option SV):VR:=
  match x with
  | some (.op id blk o)=>.val (.op id blk o)
  | some (.oe id blk o i j)=>.val (.oe id blk o i j)
  | some (.el a n rd)=>.val (.el a n rd)
  | some (.v (.pointer (some a)))=>.val (.v (.pointer (some a)))
  | some (.fn f n rd)=>.val (.fn f n rd)
  | _=>.fail
def rIndex (P:Program) (t:TK) (x ix:Option SV):VR:=
  match t,x,ix with
  | .str,some (.v (.string s)),some (.i _ n)=>.cond (0≤n∧n<(s.size:Int)) (.val (.i .u8 (byteAt s n.toNat)))
  | .array len e,some (.agg m rd),some (.i _ n)=>.cond (0≤n∧n<(len:Int)) (match Qs P e with
    | true=>.cond (0<tsz P e∧n.toNat * tsz P e<m) (.val (rd (n.toNat * tsz P e)))
    | false=>.cond (Qt P e=true) (.cond (0<tsz P e∧n.toNat * tsz P e+tsz P e≤m) (.val (.agg (tsz P e) fun j=>rd (n.toNat * tsz P e+j)))))
  | _,_,_=>.fail
def rLoad (P:Program) (own:List Own) (t:TypeId) (x:Option SV):VR:=
  match x with
  | some (.el _ n rd)=>(match Qs P t with
    | true=>.cond (0<n) (.val (rd 0))
    | false=>.cond (Qt P t=true) (.cond (0<tsz P t∧tsz P t≤n) (.val (.agg (tsz P t) rd))))
  | some (.op id blk o)=>(match own[id]? with
    | some (.box blk' _ cs)=>.cond (blk'=blk) (match Qs P t with
      | true=>rOpt cs[o]?
      | false=>.cond (Qt P t=true) (.cond (0<tsz P t∧o+tsz P t≤cs.length) (.val (.agg (tsz P t) (fun j=>cs.getD (o+j) default)))))
    | _=>.fail)
  | some (.oe id blk o ix j)=>(match own[id]? with
    | some (.row a _ len _ sz rd)=>.cond ((a.getD default).block=blk∧ix * sz+j=o) (.cond (ix<len) (match Qs P t with
      | true=>.cond (j<sz) (.val (rd ix j))
      | false=>.cond (Qt P t=true) (.cond (0<tsz P t∧j+tsz P t≤sz) (.val (.agg (tsz P t) (fun q=>rd ix (j+q)))))))
    | _=>.fail)
  | _=>.fail
def rField (P:Program) (f:Option (Nat×TypeId)) (x:Option SV):VR:=
  match f,x with
  | some (off,ft),some (.agg n rd)=>(match Qs P ft with
    | true=>.cond (off<n) (.val (rd off))
    | false=>.cond (Qt P ft=true) (.cond (0<tsz P ft∧off+tsz P ft≤n) (.val (.agg (tsz P ft) (fun j=>rd (off+j))))))
  | _,_=>.fail
def rLen (t:TK) (x:Option SV):VR:=
  match t,x with
  | .slice _,some (.sl _ len _ _ _)=>.val (.i .i64 len)
  | .slice _,some (.os _ _ len _)=>.val (.i .i64 len)
  | .slice _,some (.ow _ _ _ _ len _)=>.val (.i .i64 len)
  | .str,some (.v (.string s))=>.val (.i .i64 s.size)
  | .array n _,some _=>.val (.i .i64 n)
  | .slice _,some (.wx _ _ _ _ len _)=>.val (.i .i64 len)
  | _,_=>.fail
def rCap (t:TK) (x:Option SV):VR:=
  match t,x with
  | .slice _,some (.sl _ _ cap _ _)=>.val (.i .i64 cap)
  | .slice _,some (.os _ _ _ cap)=>.val (.i .i64 cap)
  | _,_=>.fail
def rMax (x y:Option SV):VR:=match x,y with|some (.i k p),some (.i _ q)=>.val (.i k (max p q))|_,_=>.fail
def rMin (x y:Option SV):VR:=match x,y with|some (.i k p),some (.i _ q)=>.val (.i k (min p q))|_,_=>.fail
def rSlice (P:Program) (own:List Own) (env:List (Nat×SV)) (t:TK) (x:Option SV) (lo hi:Option Operand):VR:=
  match t,x with
  | .slice e,some s=>
    (match asRead own s with
    | some (a,len,cap,sz,rd)=>(match bound env lo 0,bound env hi len with
      | some l,some h=>.cond (0≤l∧l≤h∧h≤(len:Int)) (.cond (tsz P e=sz∧0<sz) (.val (.sl (if cap=l.toNat then a else a.map (·.add (l.toNat * sz))) (h.toNat - l.toNat) (cap - l.toNat) sz (fun i j=>rd (l.toNat+i) j))))
      | _,_=>.fail)
    | none=>.fail)
  | .str,some (.v (.string s))=>(match bound env lo 0,bound env hi s.size with
      | some l,some h=>.cond (0≤l∧l≤h∧h≤(s.size:Int)) (.val (.v (.string (s.extract l.toNat h.toNat))))
      | _,_=>.fail)
  | _,_=>.fail
def rBuild (P:Program) (t:TypeId) (l:Option (List SV)):VR:=
  match l with
  | some l=>.cond (Qq P t=true∧0<tsz P t∧(tz P t≠[])) (.val (.agg l.length (fun j=>l.getD j default)))
  | none=>.fail
def rFunc (f:FuncId) (l:Option (List SV)):VR:=match l with|some l=>.val (.fn f l.length fun j=>l.getD j default)|none=>.fail
theorem rFunc_ok {P:Program} {st:St} {K:SV→Prop} {f:FuncId} {caps:Array Operand} (h:(rFunc f (evs st.env caps.toList)).holds K):Vok P st (.makeFunc (.func f) #[] caps) K:=by
  unfold rFunc at h;split at h
  · rename_i l hl
    refine⟨_,h,fun R B a w he _=>?_⟩;obtain⟨h1,h2⟩:=evs_ok he _ _ hl;refine⟨fun j hj=>h2 _ (Q6 hj),yone rfl fun o ho=>?_⟩
    have hc:caps.map a.eval=((List.range l.length).map fun j=>(l.getD j default).den).toArray:=by
      apply Array.ext';rw[Array.toList_map,h1];apply List.ext_getElem?;intro j;simp only[List.getElem?_map];by_cases hj:j<l.length
      · simp [List.getElem?_range hj,List.getD,hj]
      · simp [List.getElem?_eq_none (Nat.le_of_not_lt hj),List.getElem?_eq_none (by simp;omega:(List.range l.length).length≤j)]
    simp [execOp,ho,Instr.makeFunc,hc,SV.den]
  · exact h.elim
def rLook (own:List Own) (mt:Option (Bool×List IntKind×IntKind)) (m s:Option SV) (c:Bool):VR:=
  match m,s,mt with
  | some (.mp id blk),some s,some (sc,ks,vk)=>(match own[id]?,keyS sc s with
    | some (.mp blk' sc' ks' vk' f),some (ks2,l)=>.cond (blk'=blk∧sc'=sc∧ks'=ks∧vk'=vk∧ks2=ks) (.val (lookS vk (f l) c))
    | _,_=>.fail)
  | _,_,_=>.fail
def rOp (P:Program) (st:St):Op→VR
  | .move x=>rOpt (ev st.env x)
  | .assign x=>rOpt (ev st.env x)
  | .pick c x y=>rPick (ev st.env c) (ev st.env x) (ev st.env y)
  | .binOp op t x y _=>rBinN P t op (ev st.env x) (ev st.env y) (nilC y)
  | .unOp op _ x=>rUn op (ev st.env x)
  | .convert s d x=>rConv P st.own (tk P s) (tk P d) (ev st.env x)
  | .extract x ix=>rExtract (ev st.env x) ix
  | .fieldAddr t x f=>Zf P (Ql P t f) (ev st.env x)
  | .field t x f=>rField P (Ql P t f) (ev st.env x)
  | .indexAddr t x ix=>Q4 P st.own (tk P t) (ev st.env x) (ev st.env ix)
  | .load t x=>rLoad P st.own t (ev st.env x)
  | .build t ps=>rBuild P t (fillS (placesOf P t) (tz P t) (ps.toList.map fun p=>(p.1,ev st.env p.2)))
  | .makeFunc (.func f) ⟨[]⟩ caps=>rFunc f (evs st.env caps.toList)
  | .slice t x lo hi none=>rSlice P st.own st.env (tk P t) (ev st.env x) lo hi
  | .call { callee:=.builtin .len,args:=⟨[x]⟩,argTypes:=⟨[t]⟩ }=>rLen (tk P t) (ev st.env x)
  | .call { callee:=.builtin .cap,args:=⟨[x]⟩,argTypes:=⟨[t]⟩ }=>rCap (tk P t) (ev st.env x)
  | .call { callee:=.builtin .max,args:=⟨[x,y]⟩,argTypes:=_ }=>rMax (ev st.env x) (ev st.env y)
  | .call { callee:=.builtin .min,args:=⟨[x,y]⟩,argTypes:=_ }=>rMin (ev st.env x) (ev st.env y)
  | .nilCheck x=>Zo (ev st.env x)
  | .index t x i=>rIndex P (tk P t) (ev st.env x) (ev st.env i)
  | .lookup t m x c=>rLook st.own (mapT P t) (ev st.env m) (ev st.env x) c
  | _=>.fail
theorem holds_opt {K:SV→Prop} {o:Option SV}:(rOpt o).holds K ↔ (match o with|some s=>K s|none=>False):=by cases o<;>rfl
theorem strRd_ok {P:Program} {st:St} {K:SV→Prop} {s d e:TypeId} {x:Operand} {sv:SV} (ht:tk P s=.slice e) (he:tk P e=.int .u8) (hds:tk P d=.str) (hx:ev st.env x=some sv) (h:(strRd (asAny st.own sv)).holds K):Vok P st (.convert s d x) K:=by
  unfold strRd at h;split at h
  · rename_i ad len cap sz rd hany
    obtain⟨⟨rfl,hns⟩,h⟩:=h;refine⟨_,h,fun R B a w henv hown=>⟨trivial,yone rfl fun o ho=>?_⟩⟩;have hx':=Qo henv hx;obtain⟨hden,hcells,_⟩:=asAny_cells hany hown hx'.2
    have hce:cellsOf len 1 rd=((List.range len).map fun i=>intOf (rd i 0)).map (Value.int .u8):=by
      apply List.ext_getElem
      · simp [cellsOf]
      · intro j h1 h2
        have hj:j<len:=by simpa using h2
        obtain⟨m,hm⟩:=hns j hj;simp [cellsOf,Nat.mod_one,hm,SV.den,intOf]
    have hrun:(Conv.bytesToString (.slice ad len cap)).run P w=.ok (.string (bytesOf ((List.range len).map fun i=>intOf (rd i 0)))) w:=by
      by_cases h0:len=0
      · subst h0
        cases ad with
        | none=>simp [Conv.bytesToString,bytesOf]
        | some g=>exact run_bytesToString w g 0 cap [] (by simp [loadCells,loadCellsFrom])
      · rcases hcells with hc|⟨blk,off,rfl,hc⟩
        · exact absurd hc h0
        · refine run_bytesToString w _ _ cap _ ?_
          rw[← hce];have:=run_loadCells_list (P:=P) (w:=w) ⟨blk,off,none⟩ (cellsOf len 1 rd) hc
          rwa [show (cellsOf len 1 rd).length=len by simp [cellsOf]] at this
    unfold execOp;rw[ho];simp only[hx'.1,hden,Sem.run_bind,run_convert_bytes_string w s d e ad len cap (QC ht) (tk_int he) (tk_str hds),hrun,Result.andThen_ok,Sem.run_pure,SV.den]
  · exact h.elim
theorem rOp_ok {P:Program} {st:St} {op:Op} {K:SV→Prop} (h:(rOp P st op).holds K):Vok P st op K:=by
  unfold rOp at h;split at h
  · exact vMove_ok (holds_opt.1 h)
  · exact vAssign_ok (holds_opt.1 h)
  · apply vPick_ok
    unfold rPick at h;unfold vPick;split at h
    · rename_i hc;rw[hc];exact holds_opt.1 h
    · rename_i hc;rw[hc];exact holds_opt.1 h
    · rename_i q hc;rw[hc]
      split at h
      · rename_i s t hx hy;rw[hx,hy];simp only[]
        split at h
        · rename_i p r hp hr;rw[hp,hr];exact h
        · exact h.elim
      · exact h.elim
    · exact h.elim
  · unfold rBinN at h
    split at h
    · rename_i hq;exact vNil_ok hq h
    apply vBin_ok;unfold rBin at h;unfold vBin;split at h
    · rename_i k p k' q hx hy
      rw[hx,hy];simp only[];split at h
      · exact h
      · exact h
      · rename_i n1 n2
        obtain⟨hk,h⟩:=h;split
        · exact absurd rfl n1
        · exact absurd rfl n2
        · refine⟨hk,?_⟩
          unfold rIbin at h;unfold ibin;split at h<;>first|exact h|exact h.elim
    · rename_i s t hne hx hy
      rw[hx,hy];split
      · rename_i k p k' q h1 h2
        simp only[Option.some.injEq] at h1 h2;exact (hne _ _ _ _ (by rw[h1]) (by rw[h2])).elim
      · rename_i s' t' _ h1 h2
        simp only[Option.some.injEq] at h1 h2;subst h1;subst h2;generalize wideB _ _ _ s t=o at h ⊢;cases o with
        | none=>exact h.elim
        | some r=>exact h
      · rename_i hn;exact (hn s t rfl rfl).elim
    · exact h.elim
  · apply vUn_ok
    unfold rUn at h;unfold vUn;split at h<;>first|(rename_i hx;rw[hx];exact h)|(rename_i q hx;rw[hx];exact h)|(rename_i k n hx;rw[hx];exact h)|exact h.elim
  · unfold rConv at h
    split at h
    · rename_i e sv hs hd hx
      obtain⟨he,h⟩:=h;exact strRd_ok hs he hd hx h
    · apply vConv_ok
      unfold vConv;rename_i h1 h2 h3;rw[h1,h2,h3];exact h
    · apply vConv_ok
      unfold vConv;rename_i h1 h2 h3;rw[h1,h2,h3];exact h
    · exact h.elim
  · apply vExtract_ok
    unfold rExtract at h;unfold vExtract;split at h
    · rename_i hx;rw[hx];exact h
    · exact h.elim
  · apply vFieldAddr_ok
    unfold Zf at h;unfold vFieldAddr;split at h
    · rename_i off ft hf
      rw[hf];obtain⟨hz,h⟩:=h;refine⟨hz,?_⟩;split at h
      · rename_i hx;rw[hx];exact h
      · rename_i hx;rw[hx];exact h
      · rename_i hx;rw[hx];exact h
      · exact h.elim
    · exact h.elim
  · apply vField_ok
    unfold rField at h;unfold vField;split at h
    · rename_i off ft n rd hf hx
      rw[hf,hx];simp only[];split at h
      · rename_i hp;rw[hp];exact h
      · rename_i hp;rw[hp];exact h
    · exact h.elim
  · apply vIndexAddr_ok
    unfold Q4 at h;unfold vIndexAddr;split at h
    · rename_i e s k n ht hx hi
      rw[ht,hx,hi];simp only[];split at h
      · rename_i ha;rw[ha];exact h
      · rename_i ha;rw[ha];simp only[]
        split at h
        · split at h
          · rename_i ho;simp only[];rw[ho];exact h
          · exact h.elim
        · split at h
          · rename_i ho;simp only[];rw[ho];exact h
          · exact h.elim
        · exact h.elim
    · rename_i ht hx hi;rw[ht,hx,hi];exact h
    · rename_i ht hx hi;rw[ht,hx,hi];exact h
    · exact h.elim
  · apply vLoad_ok
    unfold rLoad at h;unfold vLoad;split at h
    · rename_i hx;rw[hx];simp only[]
      split at h
      · rename_i hp;rw[hp];exact h
      · rename_i hp;rw[hp];exact h
    · rename_i hx;rw[hx];simp only[]
      split at h
      · rename_i ho;rw[ho];simp only[]
        obtain⟨hb,h⟩:=h;refine⟨hb,?_⟩;split at h
        · rename_i hp;rw[hp];exact holds_opt.1 h
        · rename_i hp;rw[hp];exact h
      · exact h.elim
    · rename_i hx;rw[hx];simp only[]
      split at h
      · rename_i ho;rw[ho];simp only[]
        obtain⟨hb,hi,h⟩:=h;refine⟨hb,hi,?_⟩;split at h
        · rename_i hp;rw[hp];exact h
        · rename_i hp;rw[hp];exact h
      · exact h.elim
    · exact h.elim
  · apply vBuild_ok
    unfold rBuild at h;unfold vBuild;split at h
    · rename_i l hl
      obtain⟨⟨h1,h2,h3⟩,h⟩:=h;refine⟨h1,h2,h3,?_⟩;rw[hl];exact h
    · exact h.elim
  · exact rFunc_ok h
  · apply vSlice_ok
    unfold rSlice at h;unfold vSlice;split at h
    · rename_i ht hx;rw[ht,hx];simp only[]
      split at h
      · rename_i ha;rw[ha];simp only[]
        split at h
        · rename_i h1 h2;rw[h1,h2];exact h
        · exact h.elim
      · exact h.elim
    · rename_i ht hx;rw[ht,hx];simp only[]
      split at h
      · rename_i h1 h2;rw[h1,h2];exact h
      · exact h.elim
    · exact h.elim
  · apply vLen_ok
    unfold rLen at h;unfold vLen;split at h<;>first|(rename_i ht hx;rw[ht,hx];exact h)|exact h.elim
  · apply vCap_ok
    unfold rCap at h;unfold vCap;split at h<;>first|(rename_i ht hx;rw[ht,hx];exact h)|exact h.elim
  · apply vMax_ok
    unfold rMax at h;unfold vMax;split at h
    · rename_i hx hy;rw[hx,hy];exact h
    · exact h.elim
  · apply vMin_ok
    unfold rMin at h;unfold vMin;split at h
    · rename_i hx hy;rw[hx,hy];exact h
    · exact h.elim
  · apply vNilCheck_ok
    unfold Zo at h;unfold vNilCheck;split at h<;>first|(rename_i hx;rw[hx];exact h)|exact h.elim
  · apply vIndex_ok
    unfold rIndex at h;unfold vIndex;split at h
    · rename_i h1 h2 h3;rw[h1,h2,h3];exact h
    · rename_i h1 h2 h3;rw[h1,h2,h3];simp only[]
      refine⟨h.1,?_⟩;have h:=h.2;split at h
      · rename_i ha;rw[ha];exact h
      · rename_i ha;rw[ha];exact h
    · exact h.elim
  · apply vLookup_ok
    unfold rLook at h;unfold vLookup;split at h
    · rename_i h1 h2 h3;rw[h1,h2,h3];simp only[]
      split at h
      · rename_i h4 h5;rw[h4,h5];exact h
      · exact h.elim
    · exact h.elim
  · exact h.elim
end Eng
end Go.Proofs.YtabgkfjfmjdfiaaGreatDoor

namespace Go.Proofs.YtabgkfjfmjdfiaaGreatDoor
namespace Eng
def isRow (own:List Own):Option SV→Bool
  | some (.os id _ _ _)=>(match own[id]? with|some (.row _ _ _ _ _ _)=>true|_=>false)
  | _=>false
def sCut (P:Program) (st:St) (dst:Option Tmp) (t:TypeId) (x:Operand) (lo hi:Option Operand) (k:St→Prop):Prop:=
  match tk P t,ev st.env x with
  | .slice e,some (.os id a len cap)=>(match st.own[id]? with
    | some (.row a1 e1 len1 cap1 sz rd)=>(match bound st.env lo 0,bound st.env hi len with
      | some l,some h=>(a1=a∧len1=len∧cap1=cap∧tsz P e=sz∧0<sz)∧(if lo.isSome=true∧hi.isNone=true then (0≤l∧l≤(len:Int))∧k (st.put dst (.ow id a sz l.toNat (len - l.toNat) (cap - l.toNat))) else (l=0∧0≤h∧h≤(len:Int))∧k (St.put { st with own:=st.own.set id (.row a e1 h.toNat cap sz rd) } dst (.os id a h.toNat cap)))
      | _,_=>False)
    | _=>False)
  | _,_=>False
section
variable {P:Program} {F:Frm} {st:St} {k:St→Prop} {dst:Option Tmp}
theorem cellsOf_take {len h sz:Nat} {rd:Nat→Nat→SV} (hl:h≤len):cellsOf h sz rd=(cellsOf len sz rd).take (h * sz):=by
  unfold cellsOf;rw[← List.map_take,List.take_range,Nat.min_eq_left (Nat.mul_le_mul_right _ hl)]
theorem row_cut {R:Nat→Prop} {B:Nat} {w:World} {a:Option Addr} {e len cap sz:Nat} {rd:Nat→Nat→SV} (hr:(Own.row a e len cap sz rd).ok R B w) {h:Nat} (hl:h≤len):(Own.row a e h cap sz rd).ok R B w:=by
  obtain⟨⟨h1,h2⟩,h3,h4⟩:=hr;refine⟨⟨by simp [cellsOf],?_⟩,h3,fun i j hi hj=>h4 i j (by omega) hj⟩;rcases h2 with ⟨hv,h0⟩|⟨g,cap',cur,hv,hbg,hg,hn,hcm,hcs,hc⟩
  · simp only[Value.slice.injEq] at hv
    obtain⟨rfl,_,rfl⟩:=hv;exact .inl ⟨by simp;omega,by omega⟩
  · simp only[Value.slice.injEq] at hv
    obtain⟨rfl,_,rfl⟩:=hv;refine .inr ⟨g,cap,cur,rfl,hbg,hg,by omega,hcm,hcs,?_⟩;rw[cellsOf_take hl,← hc,List.take_take,Nat.min_eq_left (Nat.mul_le_mul_right _ hl)]
theorem sCut_good {t:TypeId} {x:Operand} {lo hi:Option Operand} (hd:QO st dst) (h:sCut P st dst t x lo hi k):Good P F (.slice t x lo hi none) dst st k:=by
  unfold sCut at h;rintro R0 w0 a w o next Q ho rfl ⟨ob,R,hr⟩ hk
  split at h
  · rename_i e id ad len cap ht hx
    split at h
    · rename_i a1 e1 len1 cap1 sz rd hid
      split at h
      · rename_i l hh hl1 hh1
        obtain⟨⟨rfl,rfl,rfl,hz,hz0⟩,h⟩:=h;subst hz;have hrow:=hr.own _ _ hid
        have hlc:len1≤cap1:=by
          rcases hrow.1.2 with ⟨hv,h0⟩|⟨g,cap',cur,hv,_,_,hn,_⟩
          · simp only[Value.slice.injEq] at hv;omega
          · simp only[Value.slice.injEq] at hv;omega
        split at h
        · rename_i hwin
          obtain⟨⟨h0,h1⟩,h⟩:=h;have hhi:hi=none:=by simpa using hwin.2
          subst hhi;simp only[bound,Option.some.injEq] at hh1;subst hh1;have hb:=ZD (P:=P) (w:=w) (isSlice:=true) (Zw hr.env hl1) (Zw (o:=none) hr.env (d:=(len1:Int)) rfl) h0 h1 (Int.le_refl _) hlc;simp only[Option.map_none,Int.toNat_natCast] at hb;have hs:=run_sizeOf hz0 w
          have hrun:(execOp a.eval o).run P w=.ok (.value (SV.ow id a1 (tsz P e) l.toNat (len1 - l.toNat) (cap1 - l.toNat)).den) w:=by
            have hx':=(Qo hr.env hx).1;simp only[SV.den] at hx';have e1:(cap1 - l.toNat=0) ↔ (cap1=l.toNat):=by omega
            simp [execOp,ho,hx',Instr.sliceAt,Instr.slice,run_underlying (QC ht),hb,hs,SV.den,e1]
          unfold Oper.wp;rw[hrun];exact hk _ _ _ h ⟨ob,R,hr.put (s:=.ow id a1 (tsz P e) l.toNat (len1 - l.toNat) (cap1 - l.toNat)) (Qr hd) trivial⟩
        obtain⟨⟨rfl,h1,h2⟩,h⟩:=h;have hb:=ZD (P:=P) (w:=w) (isSlice:=true) (Zw hr.env hl1) (Zw hr.env hh1) (Int.le_refl 0) h1 h2 hlc;have hs:=run_sizeOf hz0 w
        have hrun:(execOp a.eval o).run P w=.ok (.value (.slice a1 hh.toNat cap1)) w:=by
          have hx':=(Qo hr.env hx).1;simp only[SV.den] at hx';simp [execOp,ho,hx',Instr.sliceAt,Instr.slice,run_underlying (QC ht),hb,hs];cases a1 with
          | none=>simp
          | some v=>
            have hv:v.add 0=v:=by
              rcases hrow.1.2 with ⟨hv,_⟩|⟨g,cap',cur,hv,_⟩
              · cases hv
              · simp only[Value.slice.injEq,Option.some.injEq] at hv
                obtain⟨rfl,_⟩:=hv;rfl
            simp [hv]
        unfold Oper.wp;rw[hrun];have hidl:id<st.own.length:=(List.getElem?_eq_some_iff.1 hid).1;have hcut:=row_cut hrow (h:=hh.toNat) (by omega);have hblk:(Own.row a1 e1 hh.toNat cap1 (tsz P e) rd).blk=(Own.row a1 e1 len1 cap1 (tsz P e) rd).blk:=by cases a1<;>rfl
        have hnew:RelR F R0 w0 ob R { st with own:=st.own.set id (.row a1 e1 hh.toNat cap1 (tsz P e) rd) } a w:=by
          refine⟨hr.defers,hr.env,hr.size,?_,?_,hr.evo,hr.inv,hr.obM,?_,hr.obw,hr.rr,hr.r0⟩
          · intro i x hx
            rw[List.getElem?_set] at hx;split at hx
            · simp only[hidl,if_true,Option.some.injEq] at hx
              subst hx;exact hcut
            · exact hr.own i x hx
          · intro i j x y hij hx hy b hb1 hb2
            rw[List.getElem?_set] at hx hy;split at hx<;>split at hy
            · omega
            · rename_i e1 _
              subst e1;simp only[hidl,if_true,Option.some.injEq] at hx;subst hx;exact hr.dist id j _ y hij hid hy b (hblk ▸ hb1) hb2
            · rename_i _ e1
              subst e1;simp only[hidl,if_true,Option.some.injEq] at hy;subst hy;exact hr.dist i id x _ hij hx hid b hb1 (hblk ▸ hb2)
            · exact hr.dist i j x y hij hx hy b hb1 hb2
          · exact gb_set (m:=w0.w.heap.size) (Nat.le_refl _) hr.gb hid fun b hb=>.inl (hblk ▸ hb)
        exact hk _ _ _ h ⟨ob,R,hnew.put (s:=.os id a1 hh.toNat cap1) (Qr hd) trivial⟩
      · exact h.elim
    · exact h.elim
  · exact h.elim
def rdEq' (len sz:Nat) (rd rd':Nat→Nat→SV):Prop:=∀ i j,i<len→j<sz→rd i j=rd' i j
theorem cellsOf_eq' {len sz:Nat} {rd rd':Nat→Nat→SV} (h:rdEq' len sz rd rd'):cellsOf len sz rd=cellsOf len sz rd':=by
  unfold cellsOf;apply List.map_congr_left;intro q hq;have hq':q<len * sz:=by simpa using hq
  have hz:0<sz:=by
    rcases Nat.eq_zero_or_pos sz with h0|h0
    · subst h0;simp at hq'
    · exact h0
  rw[h _ _ ((Nat.div_lt_iff_lt_mul hz).2 hq') (Nat.mod_lt _ hz)]
theorem RelR.rerd {R0 R:Nat→Prop} {w0:Org} {w:World} {ob:Nat} {a:Act} (hr:RelR F R0 w0 ob R st a w) {id e len cap sz:Nat} {ad:Option Addr} {rd rd':Nat→Nat→SV} (hid:st.own[id]? = some (.row ad e len cap sz rd)) (h:rdEq' len sz rd rd') :
    RelR F R0 w0 ob R { st with own:=st.own.set id (.row ad e len cap sz rd') } a w:=by
  have hidl:id<st.own.length:=(List.getElem?_eq_some_iff.1 hid).1;have hblk:(Own.row ad e len cap sz rd').blk=(Own.row ad e len cap sz rd).blk:=by cases ad<;>rfl
  have hrow:=hr.own _ _ hid;have hok:(Own.row ad e len cap sz rd').ok R ob w:=⟨by rw[← cellsOf_eq' h];exact hrow.1,hrow.2.1,fun i j hi hj=>by rw[← h i j hi hj];exact hrow.2.2 i j hi hj⟩;refine⟨hr.defers,hr.env,hr.size,?_,?_,hr.evo,hr.inv,hr.obM,?_,hr.obw,hr.rr,hr.r0⟩
  · intro i x hx
    rw[List.getElem?_set] at hx;split at hx
    · simp only[hidl,if_true,Option.some.injEq] at hx
      subst hx;exact hok
    · exact hr.own i x hx
  · intro i j x y hij hx hy b hb1 hb2
    rw[List.getElem?_set] at hx hy;split at hx<;>split at hy
    · omega
    · rename_i e1 _
      subst e1;simp only[hidl,if_true,Option.some.injEq] at hx;subst hx;exact hr.dist id j _ y hij hid hy b (hblk ▸ hb1) hb2
    · rename_i _ e1
      subst e1;simp only[hidl,if_true,Option.some.injEq] at hy;subst hy;exact hr.dist i id x _ hij hx hid b hb1 (hblk ▸ hb2)
    · exact hr.dist i j x y hij hx hy b hb1 hb2
  · exact gb_set (m:=w0.w.heap.size) (Nat.le_refl _) hr.gb hid fun b hb=>.inl (hblk ▸ hb)
def sZeros (P:Program) (st:St) (dst:Option Tmp) (t t':TypeId) (x y:Operand) (k:St→Prop):Prop:=
  match tk P t,tk P t',ev st.env x,ev st.env y with
  | .slice e,.int _,some (.sl none 0 0 _ _),some (.i _ m)=>(0<m∧m≤9223372036854775807∧m * (tby P e:Nat)≤281474976710656)∧(0<tsz P e∧(tz P e).length=tsz P e∧(tz P e).all oneS=true) ∧
    ∀ (a:Option Addr) (cap:Nat),k (St.put { st with own:=st.own ++ [Own.row a e m.toNat cap (tsz P e) (fun _ j=>(tz P e).getD j default)] } dst (.os st.own.length a m.toNat cap))
  | _,_,_,_=>False
theorem zero_cells {e:TypeId} {z:Value} (htz:(tz P e).length=tsz P e) (hz:0<tsz P e) (hzc:z.cells.toList=(tz P e).map SV.den) (n:Nat):(Builtin.zeroCells z.cells n).toList=cellsOf n (tsz P e) (fun _ j=>(tz P e).getD j default):=by
  have hzs:z.cells.size=tsz P e:=by rw[← Array.length_toList,hzc,List.length_map,htz]
  unfold Builtin.zeroCells cellsOf;simp only[Array.toList_map,Array.toList_range,hzs];apply List.map_congr_left;intro q _;have hm:q % tsz P e<tsz P e:=Nat.mod_lt _ hz;have hc:z.cells[q % tsz P e]? = (((tz P e).map SV.den)[q % tsz P e]?):=by rw[← hzc];simp
  have hlt:q % tsz P e<(tz P e).length:=by omega
  rw[getElem!_def,hc,List.getElem?_map,List.getElem?_eq_getElem hlt];simp [List.getD,hlt]
theorem tz_ok {e:TypeId} (R:Nat→Prop) (w:World):∀ s∈tz P e,s.ok R w:=by
  intro s hs;unfold tz at hs;cases hi:(P.info? e).bind (·.zero) with
  | none=>rw[hi] at hs;cases hs
  | some z=>
    rw[hi] at hs;obtain⟨x,_,rfl⟩:=List.mem_map.1 hs;exact ok_svz _ _ _
theorem sZeros_good {t t':TypeId} {x y:Operand} (hd:QO st dst) (h:sZeros P st dst t t' x y k):Good P F (.call { callee:=.builtin .append,args:=#[x,y],argTypes:=#[t,t'] }) dst st k:=by
  unfold sZeros at h;rintro R0 w0 a w o next Q ho rfl ⟨ob,R,hr⟩ hk
  split at h
  · rename_i e kn sz0 rd0 kk m ht ht' hx hy
    obtain⟨⟨h0,h63,h48⟩,⟨hz,htz,hone⟩,h⟩:=h;obtain⟨n,rfl⟩:=Int.eq_ofNat_of_zero_le (show 0≤m by omega);have hne:tz P e≠[]:=fun h=>by rw[h] at htz;simp at htz;omega
    obtain⟨i,z,hi,hiz,hzc⟩:=tz_info hne;have hsi:i.size=tsz P e:=by unfold tsz;simp [hi]
    have hbi:i.bytes=tby P e:=by unfold tby;simp [hi]
    have hzs:z.cells.size=tsz P e:=by rw[← Array.length_toList,hzc,List.length_map,htz]
    have hti:P.underlying t'=some (.int kn):=by unfold tk at ht';split at ht'<;>simp_all
    have hrun:=Lib.run_append_nil_zeros (P:=P) w t t' o.type e i z kk kn (QC ht) hti hi hiz n (by omega) (by omega) (by omega) (by rw[hbi];omega);have hx':=(Qo hr.env hx).1;have hy':=(Qo hr.env hy).1
    have hex:(execOp a.eval o).run P w=.ok (.value (.slice (some ⟨w.heap.size,0,none⟩) n (grownCap w n 0 e))) (w.drew.alloc (.cells (Builtin.zeroCells z.cells n ++ Builtin.zeroCells z.cells (grownCap w n 0 e - n)) e)):=by
      unfold execOp;rw[ho];simp only[SV.den] at hx' hy';simp only[resolve,invoke,builtin,Sem.run_bind,Sem.run_pure,Result.andThen_ok,List.map_toArray,List.map_cons,List.map_nil,hx',hy',hrun]
    unfold Oper.wp;rw[hex];have hge:=grownCap_ge w n 0 e;have hcm:grownCap w n 0 e≤maxLen:=grownCap_le_maxLen w n 0 e (by unfold maxLen;omega);have hold:∀ b,b<w.heap.size→(w.drew.alloc (.cells (Builtin.zeroCells z.cells n ++ Builtin.zeroCells z.cells (grownCap w n 0 e - n)) e)).heap[b]? = w.heap[b]? := fun b hb=>heap_alloc_old w.drew _ hb;have hnew:=hr.newRow (o:=.row (some ⟨w.heap.size,0,none⟩) e n (grownCap w n 0 e) (tsz P e) (fun _ j=>(tz P e).getD j default)) (w':=w.drew.alloc (.cells (Builtin.zeroCells z.cells n ++ Builtin.zeroCells z.cells (grownCap w n 0 e - n)) e))
      ⟨rfl,rfl,rfl,by simp,fun b hb _=>hold b hb⟩ (fun b hb=>by simpa [Own.blk] using hb.symm)
      ⟨⟨by simp [cellsOf],.inr ⟨w.heap.size,grownCap w n 0 e,_,rfl,hr.obw,heap_alloc_new w.drew _,hge,hcm,by
          rw[Array.size_append,size_zeroCells,size_zeroCells,hzs,← Nat.add_mul];congr 1;omega,by
          rw[Array.toList_append,zero_cells htz hz hzc n];have hl:(cellsOf n (tsz P e) (fun _ j=>(tz P e).getD j default)).length=n * tsz P e:=by simp [cellsOf]
          rw[← hl]
          exact List.take_left⟩⟩,
        fun g hg=>by simp only[Option.some.injEq] at hg;subst hg;exact fun hc=>by have:=(hr.rr _ hc).1;simp at this,
        fun p q hp hq=>by
          have hm:(tz P e).getD q default∈tz P e:=Q6 (by omega)
          exact⟨one_den (List.all_eq_true.1 hone _ hm),tz_ok _ _ _ hm⟩⟩
    exact hk _ _ _ (h (some ⟨w.heap.size,0,none⟩) (grownCap w n 0 e)) ⟨ob,R,hnew.put (s:=.os st.own.length (some ⟨w.heap.size,0,none⟩) n (grownCap w n 0 e)) (Qr hd) trivial⟩
  · exact h.elim
def sMake (P:Program) (st:St) (dst:Option Tmp) (t:TypeId) (x y:Operand) (k:St→Prop):Prop:=
  match tk P t,ev st.env x,ev st.env y with
  | .slice e,some (.i _ m'),some (.i _ m)=>(m'=m∧0≤m∧m≤4611686018427387903∧m * (tby P e:Nat)≤281474976710656)∧(0<tsz P e∧(tz P e).length=tsz P e∧(tz P e).all oneS=true) ∧
    ∀ (a:Option Addr) (cap:Nat),k (St.put { st with own:=st.own ++ [Own.row a e m.toNat cap (tsz P e) (fun _ j=>(tz P e).getD j default)] } dst (.os st.own.length a m.toNat cap))
  | _,_,_=>False
theorem made_cells {e:TypeId} {z:Value} (htz:(tz P e).length=tsz P e) (hz:0<tsz P e) (hzc:z.cells.toList=(tz P e).map SV.den) (n:Nat):(madeCells z.cells (n * tsz P e)).toList=cellsOf n (tsz P e) (fun _ j=>(tz P e).getD j default):=by
  rw[← zero_cells htz hz hzc n];have hzs:z.cells.size=tsz P e:=by rw[← Array.length_toList,hzc,List.length_map,htz]
  unfold Builtin.zeroCells madeCells;rw[hzs]
theorem sMake_good {t:TypeId} {x y:Operand} (hd:QO st dst) (h:sMake P st dst t x y k):Good P F (.makeSlice t x y) dst st k:=by
  unfold sMake at h;rintro R0 w0 a w o next Q ho rfl ⟨ob,R,hr⟩ hk
  split at h
  · rename_i e k1 m' k2 m ht hx hy
    obtain⟨⟨rfl,h0,h63,h48⟩,⟨hz,htz,hone⟩,h⟩:=h;obtain⟨n,rfl⟩:=Int.eq_ofNat_of_zero_le h0;have hne:tz P e≠[]:=fun h=>by rw[h] at htz;simp at htz;omega
    obtain⟨i,z,hi,hiz,hzc⟩:=tz_info hne;have hsi:i.size=tsz P e:=by unfold tsz;simp [hi]
    have hbi:i.bytes=tby P e:=by unfold tby;simp [hi]
    have hx':=(Qo hr.env hx).1;have hy':=(Qo hr.env hy).1
    have hb2:i.bytes * n≤281474976710656:=by
      rw[hbi,Nat.mul_comm]
      have:(n:Int) * (tby P e:Int)=((n * tby P e:Nat):Int):=by simp
      omega
    obtain⟨w',hrun,hown,hgr⟩:=run_make_full (P:=P) w ob t e i z (tsz P e) (QC ht) hi hiz hsi k1 k2 n hb2 (by unfold maxLen;omega) hr.obw
    have hex:(execOp a.eval o).run P w=.ok (.value (.slice (some ⟨w.heap.size,0,none⟩) n n)) w':=by
      unfold execOp;rw[ho];simp only[SV.den] at hx' hy';simp only[Sem.run_bind,Sem.run_pure,Result.andThen_ok,hx',hy',hrun]
    unfold Oper.wp;rw[hex];rw[made_cells htz hz hzc n] at hown;have hnew:=hr.newRow (o:=.row (some ⟨w.heap.size,0,none⟩) e n n (tsz P e) (fun _ j=>(tz P e).getD j default)) hgr (fun b hb=>by simpa [Own.blk] using hb.symm)
      ⟨hown,fun g hg=>by simp only[Option.some.injEq] at hg;subst hg;exact fun hc=>by have:=(hr.rr _ hc).1;simp at this,
        fun p q hp hq=>by
          have hm:(tz P e).getD q default∈tz P e:=Q6 (by omega)
          exact⟨one_den (List.all_eq_true.1 hone _ hm),tz_ok _ _ _ hm⟩⟩
    exact hk _ _ _ (h (some ⟨w.heap.size,0,none⟩) n) ⟨ob,R,hnew.put (s:=.os st.own.length (some ⟨w.heap.size,0,none⟩) n n) (Qr hd) trivial⟩
  · exact h.elim
def sClear (P:Program) (st:St) (dst:Option Tmp) (t:TypeId) (x:Operand) (k:St→Prop):Prop:=
  match tk P t,ev st.env x with
  | .slice e,some (.ow id a sz0 off len cap)=>(match st.own[id]? with
    | some (.row a1 e1 len1 cap1 sz rd)=>(a1=a∧sz0=sz∧len1=off+len∧cap1=off+cap)∧(0<tsz P e∧tsz P e=sz∧(tz P e).length=sz∧(tz P e).all oneS=true) ∧
      k (St.put { st with own:=st.own.set id (.row a1 e1 len1 cap1 sz (Q3 off rd fun _ j=>(tz P e).getD j default)) } dst (.tup 0 fun _=>default))
    | _=>False)
  | _,_=>False
theorem row_clear {R:Nat→Prop} {B:Nat} {w:World} {g e off m cap sz:Nat} {rd rd':Nat→Nat→SV} (h:(Own.row (some ⟨g,0,none⟩) e (off+m) cap sz rd).ok R B w)
    (hone:∀ i j,i<m→j<sz→(rd' i j).den.oneCell'=true∧(rd' i j).ok R w) (hRlt:∀ b,R b→b<w.heap.size):∃ cur:Array Value,w.heap[g]? = some (.cells cur e (0,0))∧off * sz+m * sz≤cur.size ∧
      (Own.row (some ⟨g,0,none⟩) e (off+m) cap sz (Q3 off rd rd')).ok R B (w.setRow g (cur.toList.take (off * sz) ++ cellsOf m sz rd' ++ cur.toList.drop (off * sz+(cellsOf m sz rd').length)).toArray):=by
  obtain⟨ho,hR,hc⟩:=h;have hgR:¬ R g:=hR _ rfl;rcases ho.2 with ⟨hv,_⟩|⟨g',cap',cur,hv,hbg,hg,hn,hcm,hcs,ht⟩
  · cases hv
  simp only[Value.slice.injEq,Option.some.injEq,Addr.mk.injEq,and_true,true_and] at hv;obtain⟨rfl,rfl⟩:=hv;have hlen:(cellsOf m sz rd').length=m * sz:=by simp [cellsOf]
  have hle2:(off+m) * sz≤cap * sz:=Nat.mul_le_mul_right sz hn;have hle:off * sz+m * sz≤cur.size:=by rw[Nat.add_mul] at hle2;omega
  have hmono:∀ s:SV,s.ok R w→s.ok R (w.setRow g (cur.toList.take (off * sz) ++ cellsOf m sz rd' ++ cur.toList.drop (off * sz+(cellsOf m sz rd').length)).toArray):=Qx (fun _ h=>h) (fun b hb=>setRow_other w g b _ (fun e=>by subst e;exact hgR hb));refine⟨cur,hg,hle,⟨⟨by simp [cellsOf],.inr ⟨g,cap,_,rfl,hbg,setRow_heap w g cur _ e _ hg,hn,hcm,?_,?_⟩⟩,hR,?_⟩⟩
  · simp [hlen];omega
  · rw[cellsOf_cat]
    have h1:cellsOf off sz rd=cur.toList.take (off * sz):=by
      have h2:=cellsOf_take (sz:=sz) (rd:=rd) (show off≤off+m by omega);rw[h2,← ht,List.take_take,Nat.min_eq_left (Nat.mul_le_mul_right _ (by omega))]
    rw[h1]
    have hl1:(cur.toList.take (off * sz) ++ cellsOf m sz rd').length=(off+m) * sz:=by
      rw[List.length_append,List.length_take,hlen,Nat.add_mul,Array.length_toList];omega
    rw[← hl1];exact List.take_left
  · intro p q hp hq
    unfold Q3;split
    · exact⟨(hc p q (by omega) hq).1,hmono _ (hc p q (by omega) hq).2⟩
    · exact⟨(hone (p - off) q (by omega) hq).1,hmono _ (hone (p - off) q (by omega) hq).2⟩
theorem sClear_good {t:TypeId} {x:Operand} (hd:QO st dst) (h:sClear P st dst t x k):Good P F (.call { callee:=.builtin .clear,args:=#[x],argTypes:=#[t] }) dst st k:=by
  unfold sClear at h;rintro R0 w0 a w o next Q ho rfl ⟨ob,R,hr⟩ hk
  split at h
  · rename_i e id ad sz0 off len cap ht hx
    split at h
    · rename_i a1 e1 len1 cap1 sz rd hid
      obtain⟨⟨rfl,rfl,rfl,rfl⟩,⟨hz,rfl,htz,hone⟩,h⟩:=h;have hrow:=hr.own _ _ hid;have hne:tz P e≠[]:=fun h=>by rw[h] at htz;simp at htz;omega
      obtain⟨i,z,hi,hiz,hzc⟩:=tz_info hne;have hzr:∀ w:World,(zeroValue e).run P w=.ok z w:=fun w=>by simp [zeroValue,typeInfo,hi,hiz]
      have hrd:∀ i j,i<len→j<tsz P e→((fun (_:Nat) j=>(tz P e).getD j default) i j).den.oneCell'=true∧((fun (_:Nat) j=>(tz P e).getD j default) i j).ok R w:=fun i j _ hj=>by
        have hm:(tz P e).getD j default∈tz P e:=Q6 (by omega);exact⟨one_den (List.all_eq_true.1 hone _ hm),tz_ok _ _ _ hm⟩
      have hx':=(Qo hr.env hx).1
      have run:∀ w',(Builtin.clear_ #[t] o.type #[(SV.ow id a1 (tsz P e) off len cap).den]).run P w=.ok (.tuple #[]) w'→(execOp a.eval o).run P w=.ok (.value (.tuple #[])) w':=by
        intro w' hrun;unfold execOp;rw[ho];simp only[resolve,invoke,builtin,Sem.run_bind,Sem.run_pure,Result.andThen_ok,List.map_toArray,List.map_cons,List.map_nil,hx',hrun]
      have same:len=0→k (St.put { st with own:=st.own.set id (.row a1 e1 (off+len) (off+cap) (tsz P e) (Q3 off rd fun _ j=>(tz P e).getD j default)) } o.dst (.tup 0 fun _=>default))→o.wp P a w next Q:=by
        intro h0 h;subst h0
        have hex:=run w (by
          cases a1 with
          | none=>simp [Builtin.clear_,SV.den,run_underlying (QC ht)]
          | some v=>by_cases hc:cap=0<;>simp [Builtin.clear_,SV.den,run_underlying (QC ht),hc])
        unfold Oper.wp;rw[hex];have hrd0:rdEq' (off+0) (tsz P e) rd (Q3 off rd fun _ j=>(tz P e).getD j default):=fun p q hp hq=>by unfold Q3;rw[if_pos (by omega)]
        exact hk _ _ _ h ⟨ob,R,(hr.rerd hid hrd0).put (s:=.tup 0 fun _=>default) (Qr hd) (fun j hj=>absurd hj (Nat.not_lt_zero _))⟩
      by_cases h0:len=0
      · exact same h0 h
      obtain⟨g,rfl,_⟩:=row_cell hrow (show off<off+len by omega) hz;obtain⟨cur,hg,hcur,hrow'⟩:=row_clear (rd':=fun _ j=>(tz P e).getD j default) hrow hrd (fun b hb=>(hr.rr b hb).1);have hzl:=zero_cells (P:=P) htz hz hzc len;have hzlen:(cellsOf len (tsz P e) fun _ j=>(tz P e).getD j default).length=len * tsz P e:=by simp [cellsOf]
      have hst:=run_storeCells_at P g (off * tsz P e) e1 (cellsOf len (tsz P e) fun _ j=>(tz P e).getD j default) 0 cur w hg (by rw[hzlen];omega) (cellsOf_one fun i j hi hj=>(hrd i j hi hj).1);simp only[Nat.add_zero] at hst
      have hcap:cap≠0:=by
        rcases hrow.1.2 with ⟨hv,_⟩|⟨g',cap',cur',hv,_,_,hn,_⟩
        · cases hv
        · simp only[Value.slice.injEq] at hv
          omega
      have hex:=run (w.setRow g (cur.toList.take (off * tsz P e) ++ (cellsOf len (tsz P e) fun _ j=>(tz P e).getD j default) ++ cur.toList.drop (off * tsz P e+(cellsOf len (tsz P e) fun _ j=>(tz P e).getD j default).length)).toArray) (by
        obtain⟨len',rfl⟩:∃ len',len=len'+1:=⟨len - 1,by omega⟩;simp only[Builtin.clear_,SV.den,Sem.run_bind,run_underlying (QC ht),Result.andThen_ok,if_neg hcap,Option.map_some,Addr.add_lit,Nat.zero_add,List.getElem?_toArray,List.getElem?_cons_zero]
        simp only[Sem.run_bind,run_underlying (QC ht),Result.andThen_ok,hzr,hzl,hst,Sem.run_pure])
      unfold Oper.wp;rw[hex];have hnew:=hr.setOwn (o':=.row (some ⟨g,0,none⟩) e1 (off+len) (off+cap) (tsz P e) (Q3 off rd fun _ j=>(tz P e).getD j default)) (g:=g) hid rfl (fun b hb=>by simpa [Own.blk] using hb.symm) (w':=w.setRow g (cur.toList.take (off * tsz P e) ++ (cellsOf len (tsz P e) fun _ j=>(tz P e).getD j default) ++ cur.toList.drop (off * tsz P e+(cellsOf len (tsz P e) fun _ j=>(tz P e).getD j default).length)).toArray) rfl rfl rfl (by simp [World.setRow]) (fun b _ hne=>setRow_other w g b _ hne) hrow';exact hk _ _ _ h ⟨ob,R,hnew.put (s:=.tup 0 fun _=>default) (Qr hd) (fun j hj=>absurd hj (Nat.not_lt_zero _))⟩
    · exact h.elim
  · exact h.elim
end
end Eng
end Go.Proofs.YtabgkfjfmjdfiaaGreatDoor

namespace Go.Proofs.YtabgkfjfmjdfiaaGreatDoor
namespace Eng
def Q7 (k:Nat) (rd:Nat→Nat→SV):Nat→Nat→SV:=fun i j=>rd (k+i) j
def rdMove (a b n:Nat) (rd:Nat→Nat→SV):Nat→Nat→SV:=Q3 a rd (Q3 n (Q7 b rd) (Q7 (a+n) rd))
theorem rdMove_same (a n:Nat) (rd:Nat→Nat→SV) (i j:Nat):rdMove a a n rd i j=rd i j:=by
  unfold rdMove Q3 Q7;split
  · rfl
  · split
    · congr 1;omega
    · congr 1;omega
theorem rdMove_zero (a b:Nat) (rd:Nat→Nat→SV) (i j:Nat):rdMove a b 0 rd i j=rd i j:=by
  unfold rdMove Q3 Q7;split
  · rfl
  · rw[if_neg (by omega)];congr 1;omega
def sCopy (P:Program) (st:St) (dst:Option Tmp) (t:TypeId) (x y:Operand) (k:St→Prop):Prop:=
  match tk P t,ev st.env x,ev st.env y with
  | .slice e,some (.ow id a sz0 off len cap),some (.ow id2 a2 sz2 off2 len2 cap2)=>(match st.own[id]? with
    | some (.row a1 e1 len1 cap1 sz rd)=>(id2=id∧a1=a∧a2=a∧sz0=sz∧sz2=sz∧len1=off+len∧cap1=off+cap∧len1=off2+len2∧cap1=off2+cap2∧tsz P e=sz∧0<sz) ∧
      k (St.put { st with own:=st.own.set id (.row a1 e1 len1 cap1 sz (rdMove off off2 (min len2 len) rd)) } dst (.i .i64 (min len2 len:Nat)))
    | _=>False)
  | _,_,_=>False
section
variable {P:Program} {F:Frm} {st:St} {k:St→Prop} {dst:Option Tmp}
theorem cellsOf_move {a b n m sz:Nat} {rd:Nat→Nat→SV}:cellsOf (a+(n+m)) sz (rdMove a b n rd)=cellsOf a sz rd ++ (cellsOf n sz (Q7 b rd) ++ cellsOf m sz (Q7 (a+n) rd)):=by
  unfold rdMove;rw[cellsOf_cat,cellsOf_cat]
theorem cellsOf_split {a n m sz:Nat} {rd:Nat→Nat→SV}:cellsOf (a+(n+m)) sz rd=cellsOf a sz rd ++ (cellsOf n sz (Q7 a rd) ++ cellsOf m sz (Q7 (a+n) rd)):=by
  rw[← cellsOf_move (b:=a)];exact cellsOf_eq' fun i j _ _=>(rdMove_same a n rd i j).symm
theorem Q1 (n sz:Nat) (rd:Nat→Nat→SV):(cellsOf n sz rd).length=n * sz:=by simp [cellsOf]
theorem row_move {R:Nat→Prop} {B:Nat} {w:World} {g e a b n m cap sz:Nat} {rd:Nat→Nat→SV} (h:(Own.row (some ⟨g,0,none⟩) e (a+(n+m)) cap sz rd).ok R B w) (hb:b+n≤a+(n+m)) :
    ∃ cur:Array Value,w.heap[g]? = some (.cells cur e (0,0))∧a * sz+(cellsOf n sz (Q7 b rd)).length≤cur.size ∧
      (Own.row (some ⟨g,0,none⟩) e (a+(n+m)) cap sz (rdMove a b n rd)).ok R B (w.setRow g (cur.toList.take (a * sz) ++ cellsOf n sz (Q7 b rd) ++ cur.toList.drop (a * sz+(cellsOf n sz (Q7 b rd)).length)).toArray):=by
  obtain⟨ho,hR,hc⟩:=h;have hgR:¬ R g:=hR _ rfl;rcases ho.2 with ⟨hv,_⟩|⟨g',cap',cur,hv,hbg,hg,hn,hcm,hcs,ht⟩
  · cases hv
  simp only[Value.slice.injEq,Option.some.injEq,Addr.mk.injEq,and_true,true_and] at hv;obtain⟨rfl,rfl⟩:=hv;have hlen:=Q1 n sz (Q7 b rd);have hle2:(a+(n+m)) * sz≤cap * sz:=Nat.mul_le_mul_right sz hn;have hmul:(a+(n+m)) * sz=a * sz+(n * sz+m * sz):=by rw[Nat.add_mul,Nat.add_mul]
  have hle:a * sz+n * sz≤cur.size:=by omega
  have hmono:∀ s:SV,s.ok R w→s.ok R (w.setRow g (cur.toList.take (a * sz) ++ cellsOf n sz (Q7 b rd) ++ cur.toList.drop (a * sz+(cellsOf n sz (Q7 b rd)).length)).toArray):=Qx (fun _ h=>h) (fun b hb=>setRow_other w g b _ (fun e=>by subst e;exact hgR hb))
  have hcur:cur.toList=(cellsOf a sz rd ++ (cellsOf n sz (Q7 a rd) ++ cellsOf m sz (Q7 (a+n) rd))) ++ cur.toList.drop ((a+(n+m)) * sz):=by
    rw[← cellsOf_split,← ht,List.take_append_drop]
  refine⟨cur,hg,by rw[hlen];exact hle,⟨⟨by simp [cellsOf],.inr ⟨g,cap,_,rfl,hbg,setRow_heap w g cur _ e _ hg,hn,hcm,?_,?_⟩⟩,hR,?_⟩⟩
  · simp [hlen];omega
  · rw[cellsOf_move]
    have e1:cur.toList.take (a * sz)=cellsOf a sz rd:=by
      rw[hcur,List.append_assoc,← Q1 a sz rd,List.take_left]
    have e2:cur.toList.drop (a * sz+(cellsOf n sz (Q7 b rd)).length)=cellsOf m sz (Q7 (a+n) rd) ++ cur.toList.drop ((a+(n+m)) * sz):=by
      rw[hlen];have e3:a * sz+n * sz=(cellsOf a sz rd ++ cellsOf n sz (Q7 a rd)).length:=by rw[List.length_append,Q1,Q1]
      have e4:cur.toList=(cellsOf a sz rd ++ cellsOf n sz (Q7 a rd)) ++ (cellsOf m sz (Q7 (a+n) rd) ++ cur.toList.drop ((a+(n+m)) * sz)):=hcur.trans (by simp only[List.append_assoc]);have e5:=congrArg (List.drop (a * sz+n * sz)) e4;rw[e5,e3,List.drop_left]
    rw[e1,e2];have e6:(cellsOf a sz rd ++ cellsOf n sz (Q7 b rd) ++ (cellsOf m sz (Q7 (a+n) rd) ++ cur.toList.drop ((a+(n+m)) * sz)))=(cellsOf a sz rd ++ (cellsOf n sz (Q7 b rd) ++ cellsOf m sz (Q7 (a+n) rd))) ++ cur.toList.drop ((a+(n+m)) * sz):=by simp only[List.append_assoc]
    simp only;rw[e6]
    have e7:(a+(n+m)) * sz=(cellsOf a sz rd ++ (cellsOf n sz (Q7 b rd) ++ cellsOf m sz (Q7 (a+n) rd))).length:=by
      rw[List.length_append,List.length_append,Q1,Q1,Q1,hmul]
    conv=>lhs;arg 1;rw[e7]
    exact List.take_left
  · intro p q hp hq
    unfold rdMove Q3 Q7;split
    · exact⟨(hc p q (by omega) hq).1,hmono _ (hc p q (by omega) hq).2⟩
    · split
      · exact⟨(hc _ q (by omega) hq).1,hmono _ (hc _ q (by omega) hq).2⟩
      · exact⟨(hc _ q (by omega) hq).1,hmono _ (hc _ q (by omega) hq).2⟩
theorem sCopy_good {t t':TypeId} {x y:Operand} (hd:QO st dst) (h:sCopy P st dst t x y k):Good P F (.call { callee:=.builtin .copy,args:=#[x,y],argTypes:=#[t,t'] }) dst st k:=by
  unfold sCopy at h;rintro R0 w0 a w o next Q ho rfl ⟨ob,R,hr⟩ hk
  split at h
  · rename_i e id ad sz0 off len cap id2 ad2 sz2 off2 len2 cap2 ht hx hy
    split at h
    · rename_i a1 e1 len1 cap1 sz rd hid
      obtain⟨⟨rfl,rfl,rfl,rfl,rfl,hl1,hc1,hl2,hc2,hsz,hz⟩,h⟩:=h;subst hsz;have hrow:=hr.own _ _ hid;have hx':=(Qo hr.env hx).1;have hy':=(Qo hr.env hy).1;have hs:=run_sizeOf (P:=P) hz w
      have run:∀ v w',(Builtin.copy_ #[t,t'] o.type #[(SV.ow id2 ad2 (tsz P e) off len cap).den,(SV.ow id2 ad2 (tsz P e) off2 len2 cap2).den]).run P w=.ok v w'→(execOp a.eval o).run P w=.ok (.value v) w':=by
        intro v w' hrun;unfold execOp;rw[ho];simp only[resolve,invoke,builtin,Sem.run_bind,Sem.run_pure,Result.andThen_ok,List.map_toArray,List.map_cons,List.map_nil,hx',hy',hrun]
      have hload0:∀ (v:Addr),(loadCells v 0).run P w=.ok #[] w:=fun v=>by simpa using run_loadCells_list (P:=P) w v [] (by simp)
      by_cases h0:min len2 len=0
      · have hmin:Nat.min len2 len=0:=h0
        have hex:=run (goInt 0) w (by
          simp only[SV.den];cases ad2 with
          | none=>by_cases g1:cap=0<;>by_cases g2:cap2=0<;>simp [Builtin.copy_,run_underlying (QC ht),Builtin.lenOf,Builtin.firstCells,hs,hmin,storeCells,hload0,g1,g2]
          | some v=>by_cases g1:cap=0<;>by_cases g2:cap2=0<;>simp [Builtin.copy_,run_underlying (QC ht),Builtin.lenOf,Builtin.firstCells,hs,hmin,storeCells,hload0,g1,g2])
        unfold Oper.wp;rw[hex];rw[h0] at h;have hrd0:rdEq' len1 (tsz P e) rd (rdMove off off2 0 rd):=fun p q _ _=>(rdMove_zero off off2 rd p q).symm;exact hk _ _ _ h ⟨ob,R,(hr.rerd hid hrd0).put (s:=.i .i64 ((0:Nat):Int)) (Qr hd) trivial⟩
      · obtain⟨n,hn⟩:∃ n,n=min len2 len:=⟨_,rfl⟩
        have hmin:Nat.min len2 len=n:=hn.symm;rw[← hn] at h h0;obtain⟨m,hm⟩:∃ m,len1=off+(n+m):=⟨len1 - off - n,by omega⟩;obtain⟨g,rfl,_⟩:=row_cell hrow (i:=off) (j:=0) (by omega) hz;subst hm;obtain⟨cur,hg,hcur,hrow'⟩:=row_move (b:=off2) hrow (by omega)
        have hcell:∀ j v,(cellsOf n (tsz P e) (Q7 off2 rd))[j]? = some v→w.cell? ((⟨g,off2 * tsz P e,none⟩:Addr).add j)=some v:=by
          intro j v hj
          have hjl:j<n * tsz P e:=by
            have:=(List.getElem?_eq_some_iff.1 hj).1
            rwa [Q1] at this
          have hd1:j / tsz P e<n:=(Nat.div_lt_iff_lt_mul hz).2 hjl;obtain⟨g',hg',hc⟩:=row_cell hrow (i:=off2+j / tsz P e) (j:=j % tsz P e) (by omega) (Nat.mod_lt _ hz);simp only[Option.some.injEq,Addr.mk.injEq,and_true,true_and] at hg';subst hg'
          have e1:(off2+j / tsz P e) * tsz P e+j % tsz P e=off2 * tsz P e+j:=by
            rw[Nat.add_mul,Nat.add_assoc]
            congr 1
            rw[Nat.mul_comm];exact Nat.div_add_mod j (tsz P e)
          rw[Addr.add_lit];rw[e1] at hc;rw[hc];unfold cellsOf at hj;rw[List.getElem?_map,List.getElem?_range hjl] at hj
          simpa [Q7] using hj
        have hone:∀ u∈cellsOf n (tsz P e) (Q7 off2 rd),u.oneCell'=true:=cellsOf_one fun i j hi hj=>(hrow.2.2 (off2+i) j (by omega) hj).1;have hload:=run_loadCells_list (P:=P) w ⟨g,off2 * tsz P e,none⟩ _ hcell;rw[Q1] at hload;have hst:=run_storeCells_at P g (off * tsz P e) e1 (cellsOf n (tsz P e) (Q7 off2 rd)) 0 cur w hg (by omega) hone;simp only[Nat.add_zero] at hst
        have hcapn:cap≠0:=by
          rcases hrow.1.2 with ⟨hv,_⟩|⟨g',cap',cur',hv,_,_,hnn,_⟩
          · cases hv
          · simp only[Value.slice.injEq] at hv
            omega
        have hcapn2:cap2≠0:=by
          rcases hrow.1.2 with ⟨hv,_⟩|⟨g',cap',cur',hv,_,_,hnn,_⟩
          · cases hv
          · simp only[Value.slice.injEq] at hv
            omega
        have hex:=run (goInt n) (w.setRow g (cur.toList.take (off * tsz P e) ++ cellsOf n (tsz P e) (Q7 off2 rd) ++ cur.toList.drop (off * tsz P e+(cellsOf n (tsz P e) (Q7 off2 rd)).length)).toArray) (by
          simp only[SV.den,if_neg hcapn,if_neg hcapn2,Option.map_some,Addr.add_lit,Nat.zero_add]
          simp only[Builtin.copy_,List.getElem?_toArray,List.getElem?_cons_zero,List.getElem?_cons_succ,Sem.run_bind,run_underlying (QC ht),Result.andThen_ok,Builtin.lenOf,Builtin.firstCells,hs,hmin,Sem.run_pure,hload,hst])
        unfold Oper.wp;rw[hex];have hnew:=hr.setOwn (o':=.row (some ⟨g,0,none⟩) e1 (off+(n+m)) cap1 (tsz P e) (rdMove off off2 n rd)) (g:=g) hid rfl (fun b hb=>by simpa [Own.blk] using hb.symm) (w':=w.setRow g (cur.toList.take (off * tsz P e) ++ cellsOf n (tsz P e) (Q7 off2 rd) ++ cur.toList.drop (off * tsz P e+(cellsOf n (tsz P e) (Q7 off2 rd)).length)).toArray) rfl rfl rfl (by simp [World.setRow]) (fun b _ hne=>setRow_other w g b _ hne) hrow';exact hk _ _ _ h ⟨ob,R,hnew.put (s:=.i .i64 (n:Nat)) (Qr hd) trivial⟩
    · exact h.elim
  · exact h.elim
end
end Eng
end Go.Proofs.YtabgkfjfmjdfiaaGreatDoor

namespace Go.Proofs.YtabgkfjfmjdfiaaGreatDoor
namespace Eng
structure Contract (F:Frm) (P:Program) (f:FuncId) (args:List SV) (post:SV→Prop):Prop where
  enters:∀ vs w,(callFunc f vs).run P w=.ok (.enter f vs) w
  calls:∀ (R:Nat→Prop) (w:World),F.Inv w→(∀ s∈args,s.ok R w)→(∀ b,R b→b<w.heap.size∧¬ F.M b) →
    Calls P f (args.map SV.den).toArray w fun e w'=>∃ r,e=.returned r.den∧post r∧r.ok (fun b=>R b∨(w.heap.size≤b∧b<w'.heap.size)) w'∧Evo F.M w w'∧F.Inv w'
def CallK (P:Program) (F:Frm) (f:FuncId) (args:List SV) (st:St) (dst:Option Tmp) (k:St→Prop):Prop:=
  ∀ (R0:Nat→Prop) (w0:Org) (ob:Nat) (R:Nat→Prop) (a:Act) (w:World),RelR F R0 w0 ob R st a w→(∀ s∈args,s.ok R w) →
    (∀ vs w,(callFunc f vs).run P w=.ok (.enter f vs) w)∧Calls P f (args.map SV.den).toArray w fun e w'=>∃ (r:SV) (st':St) (R':Nat→Prop),e=.returned r.den∧k (st'.put dst r)∧r.ok R' w'∧RelR F R0 w0 ob R' st' a w'∧st'.n=st.n
def ExtK (P:Program) (F:Frm) (f:FuncId) (args:List SV) (st:St) (dst:Option Tmp) (k:St→Prop):Prop:=
  ∀ (R0:Nat→Prop) (w0:Org) (ob:Nat) (R:Nat→Prop) (a:Act) (w:World),RelR F R0 w0 ob R st a w→(∀ s∈args,s.ok R w) →
    ∃ (r:SV) (st':St) (R':Nat→Prop) (w':World),(callFunc f (args.map SV.den).toArray).run P w=.ok (.value r.den) w'∧k (st'.put dst r)∧r.ok R' w'∧RelR F R0 w0 ob R' st' a w'∧st'.n=st.n
def CallX (P:Program) (F:Frm) (f:FuncId) (args:List SV) (st:St) (dst:Option Tmp) (k:St→Prop):Prop:=CallK P F f args st dst k∨ExtK P F f args st dst k
section
variable {P:Program} {F:Frm} {st:St} {k:St→Prop} {dst:Option Tmp}
theorem call_good {f:FuncId} {args:Array Operand} {ts:Array TypeId} {l:List SV} (hd:QO st dst) (he:evs st.env args.toList=some l) (h:CallX P F f l st dst k) :
    Good P F (.call { callee:=.value (.func f),args:=args,argTypes:=ts }) dst st k:=by
  rintro R0 w0 a w o next Q ho rfl ⟨ob,R,hr⟩ hk
  obtain⟨h1,h2⟩:=evs_ok hr.env _ _ he;have hargs:args.map a.eval=(l.map SV.den).toArray:=by apply Array.ext';rw[Array.toList_map];exact h1
  rcases h with h|h;rotate_left
  · obtain⟨r,st',R',w',hx,hk',hrok,hrel,hn⟩:=h R0 w0 ob R a w hr h2
    unfold Oper.wp
    have hrun:(execOp a.eval o).run P w=.ok (.value r.den) w':=by
      unfold execOp;rw[ho];simp only[resolve,Act.eval,Deferred.ofValue,Sem.run_bind,Sem.run_pure,Result.andThen_ok,invoke,hargs];simp [hx]
    rw[hrun];exact hk _ _ _ hk' ⟨ob,R',hrel.put (fun t ht=>by rw[hn];exact Qr hd t ht) hrok⟩
  obtain⟨hen,hc⟩:=h R0 w0 ob R a w hr h2;unfold Oper.wp
  have hrun:(execOp a.eval o).run P w=.ok (.enter f (l.map SV.den).toArray) w:=by
    unfold execOp;rw[ho];simp only[resolve,Act.eval,Deferred.ofValue,Sem.run_bind,Sem.run_pure,Result.andThen_ok,invoke,hargs];simp [hen]
  rw[hrun];refine hc.mono ?_;rintro e w' ⟨r,st',R',rfl,hk',hrok,hrel,hn⟩;exact hk _ _ _ hk' ⟨ob,R',hrel.put (fun t ht=>by rw[hn];exact Qr hd t ht) hrok⟩
theorem call_fn_good {f:FuncId} {n t:Nat} {rd:Nat→SV} {args:Array Operand} {ts:Array TypeId} {l:List SV} (hd:QO st dst) (hf:look st.env t=some (.fn f n rd)) (he:evs st.env args.toList=some l) (h:CallX P F f (l ++ (List.range n).map rd) st dst k) :
    Good P F (.call { callee:=.value (.tmp t),args:=args,argTypes:=ts }) dst st k:=by
  rintro R0 w0 a w o next Q ho rfl ⟨ob,R,hr⟩ hk
  obtain⟨h1,h2⟩:=evs_ok hr.env _ _ he;have hfn:=hr.env t _ hf
  have hl2:∀ s∈l ++ (List.range n).map rd,s.ok R w:=fun s hs=>by
    rcases List.mem_append.1 hs with hs|hs
    · exact h2 s hs
    · obtain⟨j,hj,rfl⟩:=List.mem_map.1 hs
      exact hfn.2 j (by simpa using hj)
  have hargs:args.map a.eval=(l.map SV.den).toArray:=by apply Array.ext';rw[Array.toList_map];exact h1
  have hev:a.eval (.tmp t)=(SV.fn f n rd).den:=by simp [Act.eval,hfn.1]
  rcases h with h|h;rotate_left
  · obtain⟨r,st',R',w',hx,hk',hrok,hrel,hn⟩:=h R0 w0 ob R a w hr hl2
    unfold Oper.wp
    have hrun:(execOp a.eval o).run P w=.ok (.value r.den) w':=by
      unfold execOp;rw[ho];simp only[resolve,hev,SV.den,Deferred.ofValue,Sem.run_bind,Sem.run_pure,Result.andThen_ok,invoke,hargs];simp [Function.comp_def] at hx ⊢;simp [hx]
    rw[hrun];exact hk _ _ _ hk' ⟨ob,R',hrel.put (fun t ht=>by rw[hn];exact Qr hd t ht) hrok⟩
  obtain⟨hen,hc⟩:=h R0 w0 ob R a w hr hl2;unfold Oper.wp
  have hrun:(execOp a.eval o).run P w=.ok (.enter f ((l ++ (List.range n).map rd).map SV.den).toArray) w:=by
    unfold execOp;rw[ho];simp only[resolve,hev,SV.den,Deferred.ofValue,Sem.run_bind,Sem.run_pure,Result.andThen_ok,invoke,hargs];simp [hen,Function.comp_def]
  rw[hrun];refine hc.mono ?_;rintro e w' ⟨r,st',R',rfl,hk',hrok,hrel,hn⟩;exact hk _ _ _ hk' ⟨ob,R',hrel.put (fun t ht=>by rw[hn];exact Qr hd t ht) hrok⟩
variable {R0 R:Nat→Prop} {w0:Org} {w:World} {ob:Nat} {a:Act}
theorem RelR.called (h:RelR F R0 w0 ob R st a w) {w':World} (he:Evo F.M w w') (hi:F.Inv w'):RelR F R0 w0 ob (fun b=>R b∨(w.heap.size≤b∧b<w'.heap.size)) st a w':=by
  have hRb:∀ b,R b→w'.heap[b]? = w.heap[b]? := fun b hr=>he.block b (h.rr b hr).1 (h.rr b hr).2.1
  have hown:∀ (i:Nat) (o:Own),st.own[i]? = some o→∀ b,o.blk=some b→w'.heap[b]? = w.heap[b]? := fun i o ho b hb=>by
    obtain⟨h1,h2,_⟩:=Qw (h.own i o ho) hb;exact he.block b h2 (fun hm=>by have:=h.ltM hm;omega)
  refine⟨h.defers,fun t s ht=>⟨(h.env t s ht).1,Qx (fun _ h=>.inl h) hRb s (h.env t s ht).2⟩,h.size,?_,h.dist,h.evo.trans ⟨he.os,he.tape,he.output,he.size,fun b hb hm=>he.block b hb (fun h=>hm (.inl h))⟩,hi,h.obM,h.gb,Nat.le_trans h.obw he.size,?_,fun b hb=>.inl (h.r0 b hb)⟩
  · intro i o ho
    refine Q2 (h.own i o ho) (fun _ h=>.inl h) (fun b hb hr=>?_) hRb (hown i o ho);rcases hr with hr|⟨hr,_⟩
    · exact hr
    · have:=(Qw (h.own i o ho) hb).2.1
      omega
  · intro b hb
    rcases hb with hb|⟨hb1,hb2⟩
    · obtain⟨g1,g2,g3⟩:=h.rr b hb
      exact⟨Nat.lt_of_lt_of_le g1 he.size,g2,g3⟩
    · have:=h.obw
      have:=h.evo.size;exact⟨hb2,fun hm=>by have:=h.ltM hm;omega,.inr (.inl (by omega))⟩
def roSl (own:List Own) (s:SV):SV:=match asAny own s with|some (a,len,cap,sz,rd)=>.sl a len cap sz rd|none=>s
def roArgS (own:List Own) (s:SV):SV:=match s with | .tt=>.b true | .ff=>.b false|s=>roSl own s
def roPtr (own:List Own) (s:SV):SV:=match s with
  | .op id blk off=>(match own[id]? with
    | some (.box blk' _ cs)=>if blk'=blk∧off≤cs.length then .el ⟨blk,off,none⟩ (cs.length - off) (fun j=>cs.getD (off+j) default) else s
    | _=>s)
  | s=>roArgS own s
def roArg (own:List Own) (s:SV):SV:=match s with | .fn f n rd=>.fn f n fun j=>roPtr own (rd j)|s=>roPtr own s
def withOwn (st:St) (R:Nat→Prop):Nat→Prop:=fun b=>R b∨∃ (i:Nat) (o:Own),st.own[i]? = some o∧o.blk=some b
theorem row_sl {R R':Nat→Prop} {B:Nat} {w:World} {a:Option Addr} {e len cap sz:Nat} {rd:Nat→Nat→SV} (h:(Own.row a e len cap sz rd).ok R B w) (hR:∀ b,R b→R' b) (hR':∀ b,(Own.row a e len cap sz rd).blk=some b→R' b):(SV.sl a len cap sz rd).ok R' w:=by
  have hrow:=h;obtain⟨h1,h2,h3⟩:=h;rcases h1.2 with ⟨hv,h0⟩|⟨g,cap',cur,hv,hbg,hg,hn,hcm,_⟩
  · simp only[Value.slice.injEq] at hv
    obtain⟨rfl,_,rfl⟩:=hv;exact⟨by omega,by simp [maxLen],.inl h0⟩
  · simp only[Value.slice.injEq] at hv
    obtain⟨rfl,_,rfl⟩:=hv;refine⟨hn,hcm,.inr ⟨g,0,rfl,hR' g rfl,fun i j hi hj=>?_⟩⟩;obtain⟨g',hg',hc⟩:=row_cell hrow hi hj;simp only[Option.some.injEq,Addr.mk.injEq] at hg';obtain⟨rfl,_⟩:=hg';rw[Nat.zero_add];exact⟨hc,(h3 i j hi hj).1,Qx hR (fun _ _=>rfl) _ (h3 i j hi hj).2⟩
theorem roSl_ok (h:RelR F R0 w0 ob R st a w) {s:SV} (hs:s.ok R w):(roSl st.own s).den=s.den∧(roSl st.own s).ok (withOwn st R) w:=by
  have mono:∀ s:SV,s.ok R w→s.ok (withOwn st R) w:=Qx (fun _ h=>.inl h) (fun _ _=>rfl);unfold roSl;cases hany:asAny st.own s with
  | none=>exact⟨rfl,mono s hs⟩
  | some p=>
    obtain⟨a',len,cap,sz,rd⟩:=p;refine⟨(asAny_cells hany h.own hs).1.symm,?_⟩;have rd_ok:∀ {s:SV},asRead st.own s=some (a',len,cap,sz,rd)→s.ok R w→(SV.sl a' len cap sz rd).ok (withOwn st R) w:=fun h1 h2=>mono _ (asRead_ok h1 h.own h2).2;unfold asAny at hany;split at hany
    · rename_i id a1 len1 cap1
      split at hany
      · rename_i a2 e2 len2 cap2 sz2 rd2 ho2
        split at hany
        · rename_i heq
          obtain⟨rfl,rfl,rfl⟩:=heq;simp only[Option.some.injEq,Prod.mk.injEq] at hany;obtain⟨rfl,rfl,rfl,rfl,rfl⟩:=hany;exact row_sl (h.own _ _ ho2) (fun _ h=>.inl h) (fun b hb=>.inr ⟨_,_,ho2,hb⟩)
        · cases hany
      · exact rd_ok hany hs
    · exact rd_ok hany hs
theorem roArgS_ok (h:RelR F R0 w0 ob R st a w) {s:SV} (hs:s.ok R w):(roArgS st.own s).den=s.den∧(roArgS st.own s).ok (withOwn st R) w:=by
  cases s with
  | tt=>exact⟨rfl,trivial⟩
  | ff=>exact⟨rfl,trivial⟩
  | _=>exact roSl_ok h hs
theorem roPtr_ok (h:RelR F R0 w0 ob R st a w) {s:SV} (hs:s.ok R w):(roPtr st.own s).den=s.den∧(roPtr st.own s).ok (withOwn st R) w:=by
  cases s with
  | op id blk off=>
    simp only[roPtr];split
    · rename_i blk' ty cs hid
      split
      · rename_i hc
        obtain⟨rfl,hoff⟩:=hc;obtain⟨_,_,hg,hcs⟩:=h.own _ _ hid;refine⟨rfl,blk',off,rfl,.inr ⟨id,_,hid,rfl⟩,fun j hj=>?_⟩;have hlt:off+j<cs.length:=by omega
        have hm:cs.getD (off+j) default∈cs:=Q6 hlt;refine⟨?_,(hcs _ hm).1,Qx (fun _ h=>.inl h) (fun _ _=>rfl) _ (hcs _ hm).2⟩;rw[cell_of_row w blk' _ _ _ _ hg];simp [List.getD,hlt]
      · exact⟨rfl,hs⟩
    · exact⟨rfl,hs⟩
  | _=>exact roArgS_ok h hs
theorem roArg_ok (h:RelR F R0 w0 ob R st a w) {s:SV} (hs:s.ok R w):(roArg st.own s).den=s.den∧(roArg st.own s).ok (withOwn st R) w:=by
  cases s with
  | fn f n rd=>
    refine⟨?_,fun j hj=>(roPtr_ok h (hs j hj)).2⟩;simp only[roArg,SV.den]
    congr 2
    apply List.map_congr_left;intro j hj;exact (roPtr_ok h (hs j (by simpa using hj))).1
  | _=>exact roPtr_ok h hs
theorem withOwn_lt (h:RelR F R0 w0 ob R st a w):∀ b,withOwn st R b→b<w.heap.size∧¬ F.M b:=by
  rintro b (hb|⟨i,o,ho,hb⟩)
  · exact⟨(h.rr b hb).1,(h.rr b hb).2.1⟩
  · obtain⟨h1,h2,_⟩:=Qw (h.own i o ho) hb
    exact⟨h2,fun hm=>by have:=h.ltM hm;omega⟩
theorem callK_plain {f:FuncId} {args:List SV} {post:SV→Prop} (h:Contract F P f (args.map (roArg st.own)) post) (hp:∀ r,post r→∀ R w,r.ok R w) (hk:∀ r,post r→k (st.put dst r)):CallK P F f args st dst k:=by
  intro R0 w0 ob R a w hr hargs;refine⟨h.enters,?_⟩
  have hden:(args.map (roArg st.own)).map SV.den=args.map SV.den:=by
    rw[List.map_map];exact List.map_congr_left fun s hs=>(roArg_ok hr (hargs s hs)).1
  have hc:=h.calls (withOwn st R) w hr.inv (fun s hs=>by obtain⟨s',hs',rfl⟩:=List.mem_map.1 hs;exact (roArg_ok hr (hargs s' hs')).2) (withOwn_lt hr);rw[hden] at hc;refine hc.mono ?_;rintro e w' ⟨r,rfl,hpost,_,hevo,hinv⟩;exact⟨r,st,_,rfl,hk r hpost,hp r hpost _ _,hr.called hevo hinv,rfl⟩
def frzOne (own:List Own):SV→List Own
  | .os id a len cap=>match own[id]? with
    | some (.row a' e len' cap' sz rd)=>own.set id (.frz a' len' cap' sz rd)
    | _=>own
  | _=>own
def frz (own:List Own) (args:List SV):List Own:=args.foldl frzOne own
theorem RelR.frzOne (h:RelR F R0 w0 ob R st a w) (s:SV):∃ R',(∀ b,R b→R' b)∧RelR F R0 w0 ob R' { st with own:=Eng.frzOne st.own s } a w:=by
  have same:∃ R',(∀ b,R b→R' b)∧RelR F R0 w0 ob R' { st with own:=st.own } a w:=⟨R,fun _ h=>h,h⟩;cases s with
  | os id ad len cap=>
    simp only[Eng.frzOne];split
    · rename_i a' e len' cap' sz rd hid
      have hidl:id<st.own.length:=(List.getElem?_eq_some_iff.1 hid).1;refine⟨fun b=>R b∨(Own.row a' e len' cap' sz rd).blk=some b,fun _ h=>.inl h,?_⟩;refine h.turn (fun _=>False) rfl rfl rfl (Nat.le_refl _) (fun _ h=>h.elim) (fun _ _ _=>rfl) (fun _ h=>.inl h) (fun b hb=>?_) ?_ ?_ (gb_set h.evo.size h.gb hid fun b hb=>by cases hb)
      · rcases hb with hb|hb
        · exact .inl hb
        · obtain⟨h1,h2,_⟩:=Qw (h.own _ _ hid) hb
          exact .inr ⟨h1,h2,h.gb id _ hid b hb⟩
      · intro i x hx
        rw[List.getElem?_set] at hx;split at hx
        · rename_i e'
          subst e';simp only[hidl,if_true,Option.some.injEq] at hx;subst hx;exact row_sl (h.own _ _ hid) (fun _ h=>.inl h) (fun b hb=>.inr hb)
        · rename_i hne
          refine Q2 (h.own i x hx) (fun _ h=>.inl h) (fun b hbx hr=>?_) (fun _ _=>rfl) (fun _ _=>rfl);rcases hr with hr|hr
          · exact hr
          · exact absurd hbx (h.dist id i _ x hne hid hx b hr)
      · intro i j o1 o2 hij h1 h2 b hb1 hb2
        rw[List.getElem?_set] at h1 h2;split at h1<;>split at h2
        · omega
        · rename_i e' hne
          subst e';simp only[hidl,if_true,Option.some.injEq] at h1;subst h1;cases hb1
        · rename_i hne e'
          subst e';simp only[hidl,if_true,Option.some.injEq] at h2;subst h2;cases hb2
        · exact h.dist i j o1 o2 hij h1 h2 b hb1 hb2
    · exact same
  | _=>exact same
theorem RelR.frz (args:List SV):∀ {st:St} {R:Nat→Prop},RelR F R0 w0 ob R st a w→∃ R',(∀ b,R b→R' b)∧RelR F R0 w0 ob R' { st with own:=Eng.frz st.own args } a w:=by
  induction args with
  | nil=>intro st R h;exact⟨R,fun _ h=>h,h⟩
  | cons s rest ih=>
    intro st R h;obtain⟨R1,hm1,h1⟩:=h.frzOne s;obtain⟨R2,hm2,h2⟩:=ih h1;exact⟨R2,fun b hb=>hm2 b (hm1 b hb),h2⟩
theorem frzOne_row {own:List Own} {s:SV} {i:Nat} {a:Option Addr} {e len cap sz:Nat} {rd:Nat→Nat→SV} (h:(Eng.frzOne own s)[i]? = some (.row a e len cap sz rd)):own[i]? = some (.row a e len cap sz rd)∧∀ a' len' cap',s≠.os i a' len' cap':=by
  cases s with
  | os id ad len' cap'=>
    simp only[Eng.frzOne] at h;split at h
    · rename_i a1 e1 len1 cap1 sz1 rd1 hid
      rw[List.getElem?_set] at h;split at h
      · split at h<;>cases h
      · rename_i hne
        exact⟨h,fun a' l' c' e=>by simp only[SV.os.injEq] at e;exact hne e.1⟩
    · rename_i hn
      refine⟨h,fun a' l' c' e'=>?_⟩;simp only[SV.os.injEq] at e';obtain⟨rfl,_⟩:=e';exact hn _ _ _ _ _ _ h
  | _=>exact⟨h,fun _ _ _ e=>by cases e⟩
theorem frz_row:∀ (args:List SV) {own:List Own} {i:Nat} {a:Option Addr} {e len cap sz:Nat} {rd:Nat→Nat→SV},(Eng.frz own args)[i]? = some (.row a e len cap sz rd)→own[i]? = some (.row a e len cap sz rd)∧∀ s∈args,∀ a' len' cap',s≠.os i a' len' cap'
  | [],own,i,a,e,len,cap,sz,rd,h=>⟨h,by simp⟩
  | s :: rest,own,i,a,e,len,cap,sz,rd,h=>by
    obtain⟨h1,h2⟩:=frz_row rest (own:=Eng.frzOne own s) h;obtain⟨h3,h4⟩:=frzOne_row h1;exact⟨h3,fun s' hs'=>(List.mem_cons.1 hs').elim (fun e=>e ▸ h4) (h2 s')⟩
theorem callK_slice {f:FuncId} {args:List SV} {post:SV→Prop} (h:Contract F P f (args.map (roArgS (frz st.own args))) post) (hk:∀ r,post r→k (St.put { st with own:=frz st.own args } dst r)):CallK P F f args st dst k:=by
  intro R0 w0 ob R a w hr hargs;refine⟨h.enters,?_⟩;obtain⟨R1,hm1,hr1⟩:=hr.frz args;have hargs1:∀ s∈args,s.ok R1 w:=fun s hs=>Qx hm1 (fun _ _=>rfl) s (hargs s hs)
  have hden:(args.map (roArgS (Eng.frz st.own args))).map SV.den=args.map SV.den:=by
    rw[List.map_map];exact List.map_congr_left fun s hs=>(roArgS_ok hr1 (hargs1 s hs)).1
  have hok:∀ s∈args.map (roArgS (Eng.frz st.own args)),s.ok R1 w:=by
    intro s' hs';obtain⟨s,hs,rfl⟩:=List.mem_map.1 hs';have key:(roSl (Eng.frz st.own args) s).ok R1 w→(roArgS (Eng.frz st.own args) s).ok R1 w:=fun h=>by cases s<;>first|trivial|exact h
    apply key;unfold roSl;cases hany:asAny (Eng.frz st.own args) s with
    | none=>exact hargs1 s hs
    | some p=>
      obtain⟨a',len,cap,sz,rd⟩:=p;have rd_ok:∀ {s:SV},asRead (Eng.frz st.own args) s=some (a',len,cap,sz,rd)→s.ok R1 w→(SV.sl a' len cap sz rd).ok R1 w:=fun h1 h2=>(asRead_ok (st:={ st with own:=Eng.frz st.own args }) h1 hr1.own h2).2;unfold asAny at hany;split at hany
      · rename_i id a1 len1 cap1
        split at hany
        · rename_i a2 e2 len2 cap2 sz2 rd2 ho2
          exact absurd rfl ((frz_row args ho2).2 _ hs a1 len1 cap1)
        · exact rd_ok hany (hargs1 _ hs)
      · exact rd_ok hany (hargs1 _ hs)
  have hc:=h.calls R1 w hr1.inv hok (fun b hb=>⟨(hr1.rr b hb).1,(hr1.rr b hb).2.1⟩);rw[hden] at hc;refine hc.mono ?_;rintro e w' ⟨r,rfl,hpost,hrok,hevo,hinv⟩;exact⟨r,_,_,rfl,hk r hpost,hrok,hr1.called hevo hinv,rfl⟩
/-! ### A region's operations,in order -/
def byT:TypeId:=22
def sBytes (P:Program) (st:St) (dst:Option Tmp) (s d:TypeId) (x:Operand) (k:St→Prop):Prop:=
  match ev st.env x,tk P s,tk P d with
  | some (.v (.string b)),.str,.slice e=>(tk P e=.int .u8∧b.size≤1000000)∧∀ blk cap:Nat,k (st.put dst (.sl (some ⟨blk,0,none⟩) b.size cap 1 fun i _=>.i .u8 (b.data.toList.getD i 0).toNat))
  | _,_,_=>False
theorem sBytes_good {s d:TypeId} {x:Operand} (hd:QO st dst) (h:sBytes P st dst s d x k):Good P F (.convert s d x) dst st k:=by
  rintro R0 w0 a w o next Q ho rfl ⟨ob,R,hr⟩ hk
  unfold sBytes at h;split at h
  · rename_i b e hx hs hsl
    obtain⟨⟨he,hb⟩,h⟩:=h;have h1:=(Qo hr.env hx).1;have hrun:=Lib.run_convert_string_bytes w s d e b (tk_str hs) (QC hsl) (tk_int he)
    have hex:(execOp a.eval o).run P w=.ok (.value (.slice (some ⟨w.heap.size,0,none⟩) b.size (grownCap w b.size 0 e))) (Lib.bytesWorld w e b):=by
      unfold execOp;rw[ho];simp only[h1,SV.den,Sem.run_bind,hrun,Result.andThen_ok,Sem.run_pure]
    unfold Oper.wp;rw[hex];have hsz:=Lib.bytesWorld_size w e b;have hevo:Evo F.M w (Lib.bytesWorld w e b):=⟨rfl,rfl,rfl,by rw[hsz];exact Nat.le_succ _,fun i hi _=>Lib.bytesWorld_at_old w e b i hi⟩;have hinv:F.Inv (Lib.bytesWorld w e b):=F.stab w _ w.heap.size hr.inv (fun b hb=>F.lt w b hr.inv hb) fun i hi=>Lib.bytesWorld_at_old w e b i hi;have hr':=hr.called hevo hinv;refine hk _ _ _ (h w.heap.size (grownCap w b.size 0 e)) ⟨ob,_,hr'.put (s:=.sl (some ⟨w.heap.size,0,none⟩) b.size (grownCap w b.size 0 e) 1 fun i _=>.i .u8 (b.data.toList.getD i 0).toNat) (Qr hd) ?_⟩;refine⟨grownCap_ge w _ _ _,grownCap_le_maxLen w _ _ _ (by unfold maxLen;omega),.inr ⟨w.heap.size,0,rfl,.inr ⟨Nat.le_refl _,by rw[hsz];exact Nat.lt_succ_self _⟩,fun i j hi hj=>?_⟩⟩;obtain rfl:j=0:=by omega
    have hc:=Lib.bytesWorld_cell w e b i hi;refine⟨?_,rfl,trivial⟩;rw[show 0+i * 1+0=i by omega];exact hc
  · exact h.elim
def isWx:Option SV→Bool
  | some (.wx _ _ _ _ _ _)=>true
  | _=>false
def isStr:Option SV→Bool
  | some (.v (.string _))=>true
  | _=>false
def stepO (P:Program) (F:Frm) (st:St) (dst:Option Tmp) (op:Op) (k:St→Prop):Prop:=
  match op with
  | .alloc t=>sAlloc P st dst t k
  | .box t x=>sBox st dst t x k
  | .store t x y=>sStore P st dst t x y k
  | .buildSlice t n parts=>sBuildSlice P st dst t n parts.toList k
  | .makeSlice t x y=>sMake P st dst t x y k
  | .call { callee:=.builtin .append,args:=⟨[x,y]⟩,argTypes:=⟨[t,t']⟩ }=>if (isWx (ev st.env x) || isStr (ev st.env y))=true then Good P F (.call { callee:=.builtin .append,args:=⟨[x,y]⟩,argTypes:=⟨[t,t']⟩ }) dst st k else if t=t' then sAppend P st dst t x y k else sZeros P st dst t t' x y k
  | .call { callee:=.builtin .clear,args:=⟨[x]⟩,argTypes:=⟨[t]⟩ }=>if isWx (ev st.env x)=true then Good P F (.call { callee:=.builtin .clear,args:=⟨[x]⟩,argTypes:=⟨[t]⟩ }) dst st k else sClear P st dst t x k
  | .call { callee:=.builtin .copy,args:=⟨[x,y]⟩,argTypes:=⟨[t,t']⟩ }=>if isWx (ev st.env x)=true then Good P F (.call { callee:=.builtin .copy,args:=⟨[x,y]⟩,argTypes:=⟨[t,t']⟩ }) dst st k else sCopy P st dst t x y k
  | .call { callee:=.value (.func f),args:=args,argTypes:=_ }=>(match evs st.env args.toList with
    | some l=>CallX P F f l st dst k
    | none=>False)
  | .call { callee:=.value (.tmp t),args:=args,argTypes:=_ }=>(match look st.env t,evs st.env args.toList with
    | some (.fn f n rd),some l=>CallX P F f (l ++ (List.range n).map rd) st dst k
    | _,_=>False)
  | .slice t x lo hi none=>if isRow st.own (ev st.env x)=true then sCut P st dst t x lo hi k else if isWx (ev st.env x)=true then Good P F (.slice t x lo hi none) dst st k else (rOp P st (.slice t x lo hi none)).holds fun s=>k (st.put dst s)
  | .slice t x lo hi (some m)=>if isWx (ev st.env x)=true then Good P F (.slice t x lo hi (some m)) dst st k else False
  | .makeMap t none=>(match mapT P t with|some _=>sMakeMap P st dst t k|none=>Good P F (.makeMap t none) dst st k)
  | .mapUpdate t m x v=>(match mapT P t with|some _=>sMapUpd P st dst t m x v k|none=>Good P F (.mapUpdate t m x v) dst st k)
  | .lookup t m x c=>(match mapT P t with
    | some _=>((rOp P st (.lookup t m x c)).holds fun s=>k (st.put dst s))
    | none=>Good P F (.lookup t m x c) dst st k)
  | .mapEntry t m x=>Good P F (.mapEntry t m x) dst st k
  | .entryStore t m s x=>Good P F (.entryStore t m s x) dst st k
  | .range t x=>Good P F (.range t x) dst st k
  | .next x b=>Good P F (.next x b) dst st k
  | .entry x=>Good P F (.entry x) dst st k
  | .convert s d x=>if d=byT then sBytes P st dst s d x k else (rOp P st (.convert s d x)).holds fun s=>k (st.put dst s)
  | op=>(rOp P st op).holds fun s=>k (st.put dst s)
theorem stepO_good {op:Op} (hd:QO st dst) (h:stepO P F st dst op k):Good P F op dst st k:=by
  unfold stepO at h;split at h
  · exact sAlloc_good hd h
  · exact sBox_good hd h
  · exact sStore_good hd h
  · exact sBuildSlice_good hd h
  · exact sMake_good hd h
  · split at h
    · exact h
    · split at h
      · rename_i e;subst e;exact sAppend_good hd h
      · exact sZeros_good hd h
  · split at h
    · exact h
    · exact sClear_good hd h
  · split at h
    · exact h
    · exact sCopy_good hd h
  · split at h
    · rename_i he;exact call_good hd he h
    · exact h.elim
  · split at h
    · rename_i hf he;exact call_fn_good hd hf he h
    · exact h.elim
  · split at h
    · exact sCut_good hd h
    · split at h
      · exact h
      · exact Good.of_vok hd (rOp_ok h)
  · split at h
    · exact h
    · exact h.elim
  · split at h
    · exact sMakeMap_good hd h
    · exact h
  · split at h
    · exact sMapUpd_good hd h
    · exact h
  · split at h
    · exact Good.of_vok hd (rOp_ok h)
    · exact h
  · exact h
  · exact h
  · exact h
  · exact h
  · exact h
  · split at h
    · exact sBytes_good hd h
    · exact Good.of_vok hd (rOp_ok h)
  · exact Good.of_vok hd (rOp_ok h)
def WO (P:Program) (F:Frm) (ds:List (Option Tmp)):List Oper→St→(St→Prop)→Prop
  | [],st,k=>k st
  | o :: rest,st,k=>
    match o.guard with
    | none=>QO st o.dst∧stepO P F st o.dst o.op fun st'=>WO P F ds rest st' k
    | some (j,want)=>match (ds[j]?).bind id with
      | none=>False
      | some t=>match look st.env t with
        | some .tt=>if want=true then QO st o.dst∧(stepO P F st o.dst o.op fun st'=>WO P F ds rest st' k) else QO st o.dst∧WO P F ds rest (st.put o.dst (.v undef)) k
        | some .ff=>if want=false then QO st o.dst∧(stepO P F st o.dst o.op fun st'=>WO P F ds rest st' k) else QO st o.dst∧WO P F ds rest (st.put o.dst (.v undef)) k
        | some (.v (.tuple _))=>QO st o.dst∧WO P F ds rest (st.put o.dst (.v undef)) k
        | some (.b x)=>t<st.n∧(x=true→if want=true then QO (st.put (some t) .tt) o.dst∧(stepO P F (st.put (some t) .tt) o.dst o.op fun st'=>WO P F ds rest st' k) else QO (st.put (some t) .tt) o.dst∧WO P F ds rest ((st.put (some t) .tt).put o.dst (.v undef)) k) ∧
            (x=false→if want=false then QO (st.put (some t) .ff) o.dst∧(stepO P F (st.put (some t) .ff) o.dst o.op fun st'=>WO P F ds rest st' k) else QO (st.put (some t) .ff) o.dst∧WO P F ds rest ((st.put (some t) .ff).put o.dst (.v undef)) k)
        | _=>False
theorem QM {ops:Array Oper} {tmps:Array Value} {j t:Nat} (hj:((ops.toList.map (·.dst))[j]?).bind id=some t) {x:Bool} (ht:tmps[t]? = some (.bool x)):yielded ops tmps j=some x:=by
  rw[List.getElem?_map,Array.getElem?_toList] at hj;unfold yielded;cases ho:ops[j]? with
  | none=>rw[ho] at hj;cases hj
  | some o=>
    rw[ho] at hj;simp only[Option.map_some,Option.bind_some,id] at hj;simp [hj,ht]
theorem yielded_none {ops:Array Oper} {tmps:Array Value} {j t:Nat} (hj:((ops.toList.map (·.dst))[j]?).bind id=some t) {vs:Array Value} (ht:tmps[t]? = some (.tuple vs)):yielded ops tmps j=none:=by
  rw[List.getElem?_map,Array.getElem?_toList] at hj;unfold yielded;cases ho:ops[j]? with
  | none=>rw[ho] at hj;cases hj
  | some o=>
    rw[ho] at hj;simp only[Option.map_some,Option.bind_some,id] at hj;simp [hj,ht]
theorem RelR.know (h:RelR F R0 w0 ob R st a w) {t:Tmp} {s s':SV} (hl:look st.env t=some s) (hd:s'.den=s.den) (hs:∀ w,s'.ok R w):RelR F R0 w0 ob R (st.put (some t) s') a w:=by
  refine⟨h.defers,?_,h.size,h.own,h.dist,h.evo,h.inv,h.obM,h.gb,h.obw,h.rr,h.r0⟩;intro u s2 hu;simp only[St.put,look] at hu;by_cases e:t=u
  · rw[if_pos e,Option.some.injEq] at hu
    subst hu;subst e;exact⟨by rw[hd];exact (h.env t s hl).1,hs w⟩
  · rw[if_neg e] at hu
    exact h.env u s2 hu
theorem wo_sound {ops:Array Oper} {Q:Exit→Act→World→Prop}:∀ (l:List Oper) (st:St) (a:Act) (w:World),WO P F (ops.toList.map (·.dst)) l st k→Rel F R0 w0 st a w →
    (∀ st' a' w',k st'→Rel F R0 w0 st' a' w'→Q .normal a' w')→wpList P ops Q l a w
  | [],st,a,w,h,hr,hk=>hk _ _ _ h hr
  | o :: rest,st,a,w,h,hr,hk=>by
    have run:∀ {st:St},Rel F R0 w0 st a w→QO st o.dst→(stepO P F st o.dst o.op fun st'=>WO P F (ops.toList.map (·.dst)) rest st' k)→o.wp P a w (wpList P ops Q rest) Q:=fun hr hd hs=>
      stepO_good hd hs _ _ _ _ o _ _ rfl rfl hr fun st' a' w' h' hr'=>wo_sound rest st' a' w' h' hr' hk
    unfold WO at h;unfold wpList;split at h
    · rename_i hg
      rw[if_pos (by simp [Region.wanted,hg])];exact .inl (run hr h.1 h.2)
    · rename_i j want hg
      split at h
      · exact h.elim
      · rename_i t hj
        obtain⟨ob,R,hrr⟩:=hr;split at h
        · rename_i hl
          have hy:=QM (tmps:=a.tmps) hj (hrr.env t _ hl).1;split at h
          · rename_i hw
            subst hw;rw[if_pos (by simp [Region.wanted,hg,hy])];exact .inl (run ⟨ob,R,hrr⟩ h.1 h.2)
          · rename_i hw
            have hwf:want=false:=by simpa using hw
            subst hwf;rw[if_neg (by simp [Region.wanted,hg,hy])];exact wo_sound rest _ _ _ h.2 ⟨ob,R,hrr.put (s:=.v undef) (Qr h.1) trivial⟩ hk
        · rename_i hl
          have hy:=QM (tmps:=a.tmps) hj (hrr.env t _ hl).1;split at h
          · rename_i hw
            subst hw;rw[if_pos (by simp [Region.wanted,hg,hy])];exact .inl (run ⟨ob,R,hrr⟩ h.1 h.2)
          · rename_i hw
            have hwf:want=true:=by simpa using hw
            subst hwf;rw[if_neg (by simp [Region.wanted,hg,hy])];exact wo_sound rest _ _ _ h.2 ⟨ob,R,hrr.put (s:=.v undef) (Qr h.1) trivial⟩ hk
        · rename_i vs hl
          have hy:yielded ops a.tmps j=none:=yielded_none hj (hrr.env t _ hl).1;rw[if_neg (by simp [Region.wanted,hg,hy])];exact wo_sound rest _ _ _ h.2 ⟨ob,R,hrr.put (s:=.v undef) (Qr h.1) trivial⟩ hk
        · rename_i x hl
          obtain⟨_,ht,hf⟩:=h;have hy:=QM (tmps:=a.tmps) hj (hrr.env t _ hl).1;cases x with
          | true=>
            have h:=ht rfl;have hr':=hrr.know (s':=.tt) hl rfl (fun _=>trivial);split at h
            · rename_i hw
              subst hw;rw[if_pos (by simp [Region.wanted,hg,hy])];exact .inl (run ⟨ob,R,hr'⟩ h.1 h.2)
            · rename_i hw
              have hwf:want=false:=by simpa using hw
              subst hwf;rw[if_neg (by simp [Region.wanted,hg,hy])];exact wo_sound rest _ _ _ h.2 ⟨ob,R,hr'.put (s:=.v undef) (Qr h.1) trivial⟩ hk
          | false=>
            have h:=hf rfl;have hr':=hrr.know (s':=.ff) hl rfl (fun _=>trivial);split at h
            · rename_i hw
              subst hw;rw[if_pos (by simp [Region.wanted,hg,hy])];exact .inl (run ⟨ob,R,hr'⟩ h.1 h.2)
            · rename_i hw
              have hwf:want=true:=by simpa using hw
              subst hwf;rw[if_neg (by simp [Region.wanted,hg,hy])];exact wo_sound rest _ _ _ h.2 ⟨ob,R,hr'.put (s:=.v undef) (Qr h.1) trivial⟩ hk
        · exact h.elim
end
end Eng
end Go.Proofs.YtabgkfjfmjdfiaaGreatDoor

namespace Go.Proofs.YtabgkfjfmjdfiaaGreatDoor
namespace Eng
def Sat (P:Program) (F:Frm) (c:Code) (st:St) (K:Exit→St→Prop):Prop:=
  ∀ (R0:Nat→Prop) (w0:Org) (a:Act) (w:World),Rel F R0 w0 st a w→c.wp P (fun e a' w'=>∃ st',K e st'∧Rel F R0 w0 st' a' w') a w
def Qg (next:St→Prop) (K:Exit→St→Prop):Exit→St→Prop
  | .normal,st=>next st
  | e,st=>K e st
def Qk (id:Nat) (K:Exit→St→Prop):Exit→St→Prop
  | .exit id',st=>if id'=id then K .normal st else K (.exit id') st
  | e,st=>K e st
section
variable {P:Program} {F:Frm} {st:St} {K:Exit→St→Prop}
theorem Sat.mono {c:Code} {K':Exit→St→Prop} (h:Sat P F c st K) (hk:∀ e st,K e st→K' e st):Sat P F c st K':=
  fun R0 w0 a w hr=>wp_mono (h R0 w0 a w hr) fun e a' w' ⟨st',h1,h2⟩=>⟨st',hk e st' h1,h2⟩
theorem Sat.skip (h:K .normal st):Sat P F .skip st K:=fun R0 w0 a w hr=>wp_skip ⟨st,h,hr⟩
theorem Sat.label {l:Nat} (h:K .normal st):Sat P F (.label l) st K:=fun R0 w0 a w hr=>wp_label ⟨st,h,hr⟩
theorem Sat.exit {id:Nat} (h:K (.exit id) st):Sat P F (.exit id) st K:=fun R0 w0 a w hr=>wp_exit ⟨st,h,hr⟩
theorem Sat.ret (h:K .ret st):Sat P F .ret st K:=fun R0 w0 a w hr=>wp_ret ⟨st,h,hr⟩
theorem Qb {x y:Code} (h:Sat P F x st (Qg (fun st'=>Sat P F y st' K) K)):Sat P F (.seq x y) st K:=by
  intro R0 w0 a w hr;refine wp_seq (wp_mono (h R0 w0 a w hr) ?_);rintro e a' w' ⟨st',hk,hr'⟩;cases e with
  | normal=>exact hk R0 w0 a' w' hr'
  | _=>exact⟨st',hk,hr'⟩
theorem Sat.block {id:Nat} {c:Code} (h:Sat P F c st (Qk id K)):Sat P F (.block id c) st K:=by
  intro R0 w0 a w hr;refine wp_block (wp_mono (h R0 w0 a w hr) ?_);rintro e a' w' ⟨st',hk,hr'⟩;cases e with
  | exit id'=>
    simp only[Qk] at hk;simp only[Exit.inBlock];split at hk
    · rename_i e;rw[if_pos e];exact⟨st',hk,hr'⟩
    · rename_i e;rw[if_neg e];exact⟨st',hk,hr'⟩
  | _=>exact⟨st',hk,hr'⟩
theorem Sat.cond_ff {c:Operand} {x y:Code} (hc:ev st.env c=some .ff) (h:Sat P F y st K):Sat P F (.cond c x y) st K:=by
  rintro R0 w0 a w ⟨ob,R,hr⟩;exact wp_cond_false (Qo hr.env hc).1 (h R0 w0 a w ⟨ob,R,hr⟩)
theorem Qd {c:Operand} {x y:Code} {b:Bool} (hc:ev st.env c=some (.b b)) (ht:b=true→Sat P F x st K) (hf:b=false→Sat P F y st K):Sat P F (.cond c x y) st K:=by
  rintro R0 w0 a w ⟨ob,R,hr⟩;have:=(Qo hr.env hc).1;exact wp_cond_split this (fun h=>ht h R0 w0 a w ⟨ob,R,hr⟩) (fun h=>hf h R0 w0 a w ⟨ob,R,hr⟩)
/-! ### Less may be known -/
def rdEq (len sz:Nat) (rd rd':Nat→Nat→SV):Prop:=∀ i j,i<len→j<sz→rd i j=rd' i j
def fnEq (f f':List Int→Option Int):Prop:=∀ l,f l=f' l
def mqEq (n:Nat) (key:Nat→List Int) (val:Nat→SV) (key':Nat→List Int) (val':Nat→SV):Prop:=∀ i,i<n→key i=key' i∧val i=val' i
def Own.le:Own→Own→Prop
  | .row a e len cap sz rd,.row a' e' len' cap' sz' rd'=>a=a'∧e=e'∧len=len'∧cap=cap'∧sz=sz'∧rdEq len sz rd rd'
  | .box b t cs,.box b' t' cs'=>b=b'∧t=t'∧cs=cs'
  | .frz a len cap sz rd,.frz a' len' cap' sz' rd'=>a=a'∧len=len'∧cap=cap'∧sz=sz'∧rdEq len sz rd rd'
  | .res b p,.res b' p'=>b=b'∧p=p'
  | .mp b sc ks vk f,.mp b' sc' ks' vk' f'=>b=b'∧sc=sc'∧ks=ks'∧vk=vk'∧fnEq f f'
  | .mq b sc ks n key val,.mq b' sc' ks' n' key' val'=>b=b'∧sc=sc'∧ks=ks'∧n=n'∧mqEq n key val key' val'
  | _,.gone=>True
  | _,_=>False
def ownLe:List Own→List Own→Prop
  | _,[]=>True
  | o :: os,p :: ps=>o.le p∧ownLe os ps
  | [],_ :: _=>False
def envLe (env:List (Nat×SV)):List (Nat×SV)→Prop
  | []=>True
  | (t,s) :: l=>(look env t=some s∨∃ b,(look env t).bind toB=some b∧toB s=some b)∧envLe env l
def Le (st st':St):Prop:=st'.n=st.n∧envLe st.env st'.env∧ownLe st.own st'.own
theorem toB_ok {s:SV} {b:Bool} (h:toB s=some b) (R:Nat→Prop) (w:World):s.ok R w:=by cases s<;>first|trivial|cases h
theorem envLe_ok {R:Nat→Prop} {a:Act} {w:World} {env:List (Nat×SV)} (he:EnvOk R env a w):∀ {l:List (Nat×SV)},envLe env l→EnvOk R l a w
  | [],_,t,s,h=>by cases h
  | (u,x) :: l,⟨h1,h2⟩,t,s,h=>by
    simp only[look] at h;split at h
    · rename_i e
      subst e;simp only[Option.some.injEq] at h;subst h;rcases h1 with h1|⟨b,hb,hx⟩
      · exact he _ _ h1
      · cases hl:look env u with
        | none=>rw[hl] at hb;cases hb
        | some y=>
          rw[hl] at hb;have hy:toB y=some b:=hb;have:=he _ _ hl;exact⟨by rw[this.1,toB_den hy,toB_den hx],toB_ok hx R w⟩
    · exact envLe_ok he h2 t s h
theorem cellsOf_eq {len sz:Nat} {rd rd':Nat→Nat→SV} (h:rdEq len sz rd rd'):cellsOf len sz rd=cellsOf len sz rd':=by
  unfold cellsOf;apply List.map_congr_left;intro q hq;have hq':q<len * sz:=by simpa using hq
  have hz:0<sz:=by
    rcases Nat.eq_zero_or_pos sz with h0|h0
    · subst h0;simp at hq'
    · exact h0
  rw[h _ _ ((Nat.div_lt_iff_lt_mul hz).2 hq') (Nat.mod_lt _ hz)]
theorem Own.ok_le {R:Nat→Prop} {B:Nat} {w:World} {o p:Own} (h:o.ok R B w) (hl:o.le p):p.ok R B w∧∀ b,p.blk=some b→o.blk=some b:=by
  unfold Own.le at hl;split at hl
  · obtain⟨rfl,rfl,rfl,rfl,rfl,hrd⟩:=hl
    obtain⟨h1,h2,h3⟩:=h;exact⟨⟨by rw[← cellsOf_eq hrd];exact h1,h2,fun i j hi hj=>by rw[← hrd i j hi hj];exact h3 i j hi hj⟩,fun b hb=>by cases ‹Option Addr›<;>exact hb⟩
  · obtain⟨rfl,rfl,rfl⟩:=hl;exact⟨h,fun _ h=>h⟩
  · obtain⟨rfl,rfl,rfl,rfl,hrd⟩:=hl
    refine⟨?_,fun _ h=>by cases h⟩;obtain⟨h1,h2,h3⟩:=h;refine⟨h1,h2,?_⟩;rcases h3 with h3|⟨blk,off,ha,hR,hc⟩
    · exact .inl h3
    · exact .inr ⟨blk,off,ha,hR,fun i j hi hj=>by rw[← hrd i j hi hj];exact hc i j hi hj⟩
  · obtain⟨rfl,rfl⟩:=hl;exact⟨h,fun _ h=>h⟩
  · obtain⟨rfl,rfl,rfl,rfl,hf⟩:=hl
    obtain⟨h1,h2,es,clock,h3,L,h4,h5,h6⟩:=h;exact⟨⟨h1,h2,es,clock,h3,L,h4,h5,fun l hl=>(hf l).symm.trans (h6 l hl)⟩,fun _ h=>h⟩
  · rename_i b sc ks n key val b' sc' ks' n' key' val'
    obtain⟨rfl,rfl,rfl,rfl,hf⟩:=hl;obtain⟨h1,h2,h3,h4⟩:=h;refine⟨⟨h1,h2,h3.eq fun i hi=>⟨(hf i hi).1,by rw[(hf i hi).2]⟩,fun i hi=>by rw[← (hf i hi).2];exact h4 i hi⟩,fun _ h=>h⟩
  · exact⟨trivial,fun _ h=>by cases h⟩
  · exact hl.elim
theorem ownLe_get:∀ {l l':List Own},ownLe l l'→∀ (i:Nat) (p:Own),l'[i]? = some p→∃ o,l[i]? = some o∧o.le p
  | l,[],_,i,p,h=>by simp at h
  | [],_ :: _,hl,_,_,_=>hl.elim
  | o :: os,q :: ps,hl,i,p,h=>by
    cases i with
    | zero=>simp only[List.getElem?_cons_zero,Option.some.injEq] at h;subst h;exact⟨o,rfl,hl.1⟩
    | succ i=>exact ownLe_get hl.2 i p h
theorem Rel.le {R0:Nat→Prop} {w0:Org} {w:World} {a:Act} {st':St} (h:Rel F R0 w0 st a w) (hl:Le st st'):Rel F R0 w0 st' a w:=by
  obtain⟨ob,R,hr⟩:=h;obtain⟨hn,he,ho⟩:=hl;refine⟨ob,R,hr.defers,envLe_ok hr.env he,by rw[hn];exact hr.size,?_,?_,hr.evo,hr.inv,hr.obM,?_,hr.obw,hr.rr,hr.r0⟩
  · intro i p hp
    obtain⟨o,h1,h2⟩:=ownLe_get ho i p hp;exact (Own.ok_le (hr.own i o h1) h2).1
  · intro i j o1 o2 hij h1 h2 b hb1 hb2
    obtain⟨p1,g1,l1⟩:=ownLe_get ho i o1 h1;obtain⟨p2,g2,l2⟩:=ownLe_get ho j o2 h2;exact hr.dist i j p1 p2 hij g1 g2 b ((Own.ok_le (hr.own i p1 g1) l1).2 b hb1) ((Own.ok_le (hr.own j p2 g2) l2).2 b hb2)
  · intro i p hp b hb
    obtain⟨o,h1,h2⟩:=ownLe_get ho i p hp;exact hr.gb i o h1 b ((Own.ok_le (hr.own i o h1) h2).2 b hb)
theorem Sat.le {c:Code} {st':St} (h:Sat P F c st' K) (hl:Le st st'):Sat P F c st K:=fun R0 w0 a w hr=>h R0 w0 a w (hr.le hl)
theorem Sat.loop {c:Code} {ι:Type} (sh:ι→St) (I:ι→Prop) (μ:ι→Nat) (x0:ι) (h0:I x0) (hl:Le st (sh x0))
    (h:∀ x,I x→Sat P F c (sh x) (Qg (fun st'=>∃ y,I y∧μ y<μ x∧Le st' (sh y)) K)):Sat P F (.loop c) st K:=by
  intro R0 w0 a w hr;refine wp_loop_ghost (fun n a' w'=>∃ y,I y∧μ y=n∧Rel F R0 w0 (sh y) a' w') (μ x0) ⟨x0,h0,rfl,hr.le hl⟩ ?_;rintro n a' w' ⟨y,hy,rfl,hry⟩;refine wp_mono (h y hy R0 w0 a' w' hry) ?_;rintro e a2 w2 ⟨st',hk,hr2⟩;cases e with
  | normal=>
    obtain⟨z,hz,hlt,hle⟩:=hk;exact⟨μ z,hlt,z,hz,rfl,hr2.le hle⟩
  | _=>exact⟨st',hk,hr2⟩
/-! ### Regions -/
theorem Sat.region {id:Nat} {l:List Oper} (h:WO P F (l.map (·.dst)) l st (K .normal)):Sat P F (.region id l.toArray false) st K:=by
  intro R0 w0 a w hr;refine wp_region_lit ?_;exact wo_sound (ops:=l.toArray) (k:=K .normal) l st a w (by simpa using h) hr fun st' a' w' hk hr'=>⟨st',hk,hr'⟩
def CallQ (P:Program) (st:St) (f:FuncId) (args:List SV) (k:SV→Prop):Prop:=
  ∃ r,Contract Frm.nil P f (args.map (roArg st.own)) (fun s=>s=r)∧(∀ R w,r.ok R w)∧k r
def stepQ (P:Program) (st:St) (op:Op) (k:SV→Prop):Prop:=
  match op with
  | .call { callee:=.value (.func f),args:=args,argTypes:=_ }=>(match evs st.env args.toList with
    | some l=>CallQ P st f l k
    | none=>False)
  | .call { callee:=.value (.tmp t),args:=args,argTypes:=_ }=>(match look st.env t,evs st.env args.toList with
    | some (.fn f n rd),some l=>CallQ P st f (l ++ (List.range n).map rd) k
    | _,_=>False)
  | op=>(rOp P st op).holds k
def WQ (P:Program) (ds:List (Option Tmp)):List Oper→St→(St→Prop)→Prop
  | [],st,k=>k st
  | o :: rest,st,k=>
    match o.guard with
    | none=>QO st o.dst∧stepQ P st o.op fun s=>WQ P ds rest (st.put o.dst s) k
    | some (j,want)=>match (ds[j]?).bind id with
      | none=>False
      | some t=>match look st.env t with
        | some .tt=>if want=true then QO st o.dst∧(stepQ P st o.op fun s=>WQ P ds rest (st.put o.dst s) k) else QO st o.dst∧WQ P ds rest (st.put o.dst (.v undef)) k
        | some .ff=>if want=false then QO st o.dst∧(stepQ P st o.op fun s=>WQ P ds rest (st.put o.dst s) k) else QO st o.dst∧WQ P ds rest (st.put o.dst (.v undef)) k
        | some (.v (.tuple _))=>QO st o.dst∧WQ P ds rest (st.put o.dst (.v undef)) k
        | some (.b x)=>t<st.n∧(x=true→if want=true then QO (st.put (some t) .tt) o.dst∧(stepQ P (st.put (some t) .tt) o.op fun s=>WQ P ds rest ((st.put (some t) .tt).put o.dst s) k) else QO (st.put (some t) .tt) o.dst∧WQ P ds rest ((st.put (some t) .tt).put o.dst (.v undef)) k) ∧
            (x=false→if want=false then QO (st.put (some t) .ff) o.dst∧(stepQ P (st.put (some t) .ff) o.op fun s=>WQ P ds rest ((st.put (some t) .ff).put o.dst s) k) else QO (st.put (some t) .ff) o.dst∧WQ P ds rest ((st.put (some t) .ff).put o.dst (.v undef)) k)
        | _=>False
def Grown (w w':World):Prop:=Evo (fun _=>False) w w'
theorem RelR.grown {R0 R:Nat→Prop} {w0:Org} {w w':World} {ob:Nat} {a:Act} (h:RelR F R0 w0 ob R st a w) (hg:Grown w w'):RelR F R0 w0 ob R st a w':=by
  have hb:∀ b,b<w.heap.size→w'.heap[b]? = w.heap[b]? := fun b hb=>hg.block b hb (fun h=>h);have:=h.turn (own':=st.own) (R':=R) (w':=w') (fun _=>False) hg.os hg.tape hg.output hg.size (fun _ h=>h.elim) (fun b hlt _=>hb b hlt) (fun _ h=>h) (fun _ h=>.inl h)
    (fun i o ho=>Q2 (h.own i o ho) (fun _ h=>h) (fun _ _ h=>h) (fun b hr=>hb b (h.rr b hr).1) (fun b hbx=>hb b (Qw (h.own i o ho) hbx).2.1)) h.dist h.gb
  exact this
theorem quietUpon_value {C:World→Prop} {w:World} {o:Oper} {a:Act} {v:Value} (h:(execOp a.eval o).run P w=.ok (.value v) w):o.quietAt P a C w v:=by
  unfold Oper.quietAt;rw[h];exact⟨rfl,rfl⟩
theorem stepQ_ok {op:Op} {k:SV→Prop} {dst:Option Tmp} (h:stepQ P st op k) {R0 R:Nat→Prop} {w0:Org} {w:World} {ob:Nat} {a:Act} (hr:RelR F R0 w0 ob R st a w) (o:Oper) (ho:o.op=op) :
    ∃ s,k s∧s.ok R w∧∀ w',Grown w w'→o.quietAt P a (Grown w) w' s.den:=by
  unfold stepQ at h;split at h
  · rename_i f args ts
    split at h
    · rename_i l he
      obtain⟨r,hc,hrok,hk⟩:=h;refine⟨r,hk,hrok _ _,fun w' hg=>?_⟩;have hr':=hr.grown hg;obtain⟨h1,h2⟩:=evs_ok hr'.env _ _ he;have hargs:args.map a.eval=(l.map SV.den).toArray:=by apply Array.ext';rw[Array.toList_map];exact h1
      have hrun:(execOp a.eval o).run P w'=.ok (.enter f (l.map SV.den).toArray) w':=by
        unfold execOp;rw[ho];simp only[resolve,Act.eval,Deferred.ofValue,Sem.run_bind,Sem.run_pure,Result.andThen_ok,invoke,hargs];simp [hc.enters]
      have hden:(l.map (roArg st.own)).map SV.den=l.map SV.den:=by
        rw[List.map_map];exact List.map_congr_left fun s hs=>(roArg_ok hr' (h2 s hs)).1
      have hcall:=hc.calls (withOwn st R) w' trivial (fun s hs=>by obtain⟨s',hs',rfl⟩:=List.mem_map.1 hs;exact (roArg_ok hr' (h2 s' hs')).2) (fun b hb=>⟨(withOwn_lt hr' b hb).1,fun h=>h⟩);rw[hden] at hcall;unfold Oper.quietAt;rw[hrun];refine⟨rfl,hcall.mono ?_⟩;rintro e w'' ⟨r',rfl,rfl,_,hevo,_⟩;exact⟨rfl,hg.trans hevo⟩
    · exact h.elim
  · rename_i t args ts
    split at h
    · rename_i f n rd l hf he
      obtain⟨r,hc,hrok,hk⟩:=h;refine⟨r,hk,hrok _ _,fun w' hg=>?_⟩;have hr':=hr.grown hg;obtain⟨h1,h2⟩:=evs_ok hr'.env _ _ he;have hfn:=hr'.env t _ hf
      have h2':∀ s∈l ++ (List.range n).map rd,s.ok R w':=fun s hs=>by
        rcases List.mem_append.1 hs with hs|hs
        · exact h2 s hs
        · obtain⟨j,hj,rfl⟩:=List.mem_map.1 hs
          exact hfn.2 j (by simpa using hj)
      have hargs:args.map a.eval=(l.map SV.den).toArray:=by apply Array.ext';rw[Array.toList_map];exact h1
      have hev:a.eval (.tmp t)=(SV.fn f n rd).den:=by simp [Act.eval,hfn.1]
      have hrun:(execOp a.eval o).run P w'=.ok (.enter f ((l ++ (List.range n).map rd).map SV.den).toArray) w':=by
        unfold execOp;rw[ho];simp only[resolve,hev,SV.den,Deferred.ofValue,Sem.run_bind,Sem.run_pure,Result.andThen_ok,invoke,hargs];simp [hc.enters,Function.comp_def]
      have hden:((l ++ (List.range n).map rd).map (roArg st.own)).map SV.den=(l ++ (List.range n).map rd).map SV.den:=by
        rw[List.map_map];exact List.map_congr_left fun s hs=>(roArg_ok hr' (h2' s hs)).1
      have hcall:=hc.calls (withOwn st R) w' trivial (fun s hs=>by obtain⟨s',hs',rfl⟩:=List.mem_map.1 hs;exact (roArg_ok hr' (h2' s' hs')).2) (fun b hb=>⟨(withOwn_lt hr' b hb).1,fun h=>h⟩);rw[hden] at hcall;unfold Oper.quietAt;rw[hrun];refine⟨rfl,hcall.mono ?_⟩;rintro e w'' ⟨r',rfl,rfl,_,hevo,_⟩;exact⟨rfl,hg.trans hevo⟩
    · exact h.elim
  · obtain⟨s,hk,hv⟩:=rOp_ok h
    obtain⟨h1,_⟩:=hv R _ a w hr.env hr.own;refine⟨s,hk,h1,fun w' hg=>?_⟩;have hr':=hr.grown hg;exact quietUpon_value ((hv R _ a w' hr'.env hr'.own).2.1 o ho)
theorem wq_sound {ops:Array Oper} {k:St→Prop} {R0:Nat→Prop} {w0:Org} {w:World} {ob:Nat} {Q:Act→Prop}:∀ (l:List Oper) (st:St) (a:Act) (R:Nat→Prop),WQ P (ops.toList.map (·.dst)) l st k→RelR F R0 w0 ob R st a w →
    (∀ st' a' R',k st'→RelR F R0 w0 ob R' st' a' w→Q a')→wpQuiet P ops (Grown w) Q l a
  | [],st,a,R,h,hr,hk=>hk _ _ _ h hr
  | o :: rest,st,a,R,h,hr,hk=>by
    have run:∀ {st:St},RelR F R0 w0 ob R st a w→QO st o.dst→(stepQ P st o.op fun s=>WQ P (ops.toList.map (·.dst)) rest (st.put o.dst s) k)→o.quiet P a (Grown w) (wpQuiet P ops (Grown w) Q rest):=by
      intro st hr hd hs;obtain⟨s,hs,hok,hq⟩:=stepQ_ok (dst:=o.dst) hs hr o rfl;exact⟨s.den,hq,wq_sound rest _ _ R hs (hr.put (Qr hd) hok) hk⟩
    unfold WQ at h;unfold wpQuiet;split at h
    · rename_i hg
      rw[if_pos (by simp [Region.wanted,hg])];exact run hr h.1 h.2
    · rename_i j want hg
      split at h
      · exact h.elim
      · rename_i t hj
        split at h
        · rename_i hl
          have hy:=QM (tmps:=a.tmps) hj (hr.env t _ hl).1;split at h
          · rename_i hw
            subst hw;rw[if_pos (by simp [Region.wanted,hg,hy])];exact run hr h.1 h.2
          · rename_i hw
            have hwf:want=false:=by simpa using hw
            subst hwf;rw[if_neg (by simp [Region.wanted,hg,hy])];exact wq_sound rest _ _ R h.2 (hr.put (s:=.v undef) (Qr h.1) trivial) hk
        · rename_i hl
          have hy:=QM (tmps:=a.tmps) hj (hr.env t _ hl).1;split at h
          · rename_i hw
            subst hw;rw[if_pos (by simp [Region.wanted,hg,hy])];exact run hr h.1 h.2
          · rename_i hw
            have hwf:want=true:=by simpa using hw
            subst hwf;rw[if_neg (by simp [Region.wanted,hg,hy])];exact wq_sound rest _ _ R h.2 (hr.put (s:=.v undef) (Qr h.1) trivial) hk
        · rename_i vs hl
          have hy:yielded ops a.tmps j=none:=yielded_none hj (hr.env t _ hl).1;rw[if_neg (by simp [Region.wanted,hg,hy])];exact wq_sound rest _ _ R h.2 (hr.put (s:=.v undef) (Qr h.1) trivial) hk
        · rename_i x hl
          obtain⟨_,ht,hf⟩:=h;have hy:=QM (tmps:=a.tmps) hj (hr.env t _ hl).1;cases x with
          | true=>
            have h:=ht rfl;have hr':=hr.know (s':=.tt) hl rfl (fun _=>trivial);split at h
            · rename_i hw
              subst hw;rw[if_pos (by simp [Region.wanted,hg,hy])];exact run hr' h.1 h.2
            · rename_i hw
              have hwf:want=false:=by simpa using hw
              subst hwf;rw[if_neg (by simp [Region.wanted,hg,hy])];exact wq_sound rest _ _ R h.2 (hr'.put (s:=.v undef) (Qr h.1) trivial) hk
          | false=>
            have h:=hf rfl;have hr':=hr.know (s':=.ff) hl rfl (fun _=>trivial);split at h
            · rename_i hw
              subst hw;rw[if_pos (by simp [Region.wanted,hg,hy])];exact run hr' h.1 h.2
            · rename_i hw
              have hwf:want=true:=by simpa using hw
              subst hwf;rw[if_neg (by simp [Region.wanted,hg,hy])];exact wq_sound rest _ _ R h.2 (hr'.put (s:=.v undef) (Qr h.1) trivial) hk
        · exact h.elim
theorem Sat.region_q {id:Nat} {l:List Oper} (hm:P.follows .mixedOrders=true) (hB:Region.lexB .any l.toArray=true) (h:WQ P (l.map (·.dst)) l st (K .normal)):Sat P F (.region id l.toArray true) st K:=by
  rintro R0 w0 a w ⟨ob,R,hr⟩;have hdrew:Grown w { w with drawn:=w.drawn+1 }:=⟨rfl,rfl,rfl,Nat.le_refl _,fun _ _ _=>rfl⟩;refine wp_region_quiet (C:=Grown w) hm hB hdrew ?_;refine wq_sound (ops:=l.toArray) (k:=K .normal) l st a R (by simpa using h) hr ?_;intro st' a' R' hk hr' w' hg;exact⟨st',hk,ob,R',hr'.grown hg⟩
theorem getD_get {α:Type} {l:List α} {j:Nat} (h:j<l.length) {d:α}:l[j]? = some (l.getD j d):=by simp [List.getD,h]
/-! ### A function -/
def Qm:Nat→List SV→List (Nat×SV)
  | _,[]=>[]
  | i,s :: l=>(i,s) :: Qm (i+1) l
theorem look_argEnv:∀ (l:List SV) (i t:Nat) (s:SV),look (Qm i l) t=some s→∃ j,t=i+j∧l[j]? = some s
  | [],i,t,s,h=>by cases h
  | x :: l,i,t,s,h=>by
    simp only[Qm,look] at h;split at h
    · rename_i e;simp only[Option.some.injEq] at h;subst h;exact⟨0,by omega,rfl⟩
    · obtain⟨j,h1,h2⟩:=look_argEnv l (i+1) t s h
      exact⟨j+1,by omega,h2⟩
def resVR (P:Program) (st:St):ResultVar→VR
  | .tmp t=>rOpt (look st.env t)
  | .cell a t=>rLoad P st.own t (look st.env a)
def resHolds (P:Program) (st:St):List ResultVar→(List SV→Prop)→Prop
  | [],K=>K []
  | r :: rs,K=>(resVR P st r).holds fun s=>resHolds P st rs fun l=>K (s :: l)
def ro (own:List Own):SV→SV
  | .agg n rd=>.agg n fun j=>roArg own (rd j)
  | s=>roArg own s
def resOf (own:List Own):List SV→SV
  | [s]=>ro own s
  | l=>.tup l.length fun j=>ro own (l.getD j default)
def retK (P:Program) (rs:List ResultVar) (post:SV→Prop):Exit→St→Prop
  | .normal,st=>resHolds P st rs fun l=>post (resOf st.own l)
  | .ret,st=>resHolds P st rs fun l=>post (resOf st.own l)
  | _,_=>False
def resRun (tmps:Array Value):ResultVar→Sem Value
  | .tmp t=>pure (tmps.getD t undef)
  | .cell a' t=>do loadVar t (← asAddr (tmps.getD a' undef))
theorem resVR_ok {R0 R:Nat→Prop} {w0:Org} {w:World} {ob:Nat} {a:Act} (hr:RelR F R0 w0 ob R st a w) {r:ResultVar} {k:SV→Prop} (h:(resVR P st r).holds k):∃ s,k s∧s.ok R w ∧
    (resRun a.tmps r).run P w=.ok s.den w:=by
  cases r with
  | tmp t=>
    unfold resVR at h;have h:=holds_opt.1 h;split at h
    · rename_i s hl
      have:=hr.env t s hl;exact⟨s,h,this.2,by simp [resRun,this.1]⟩
    · exact h.elim
  | cell t ty=>
    unfold resVR at h
    have hv:Vok P st (.load ty (.tmp t)) k:=by
      apply rOp_ok;unfold rOp;exact h
    obtain⟨s,hk,hall⟩:=hv;obtain⟨h1,h2,_⟩:=hall R _ a w hr.env hr.own;refine⟨s,hk,h1,?_⟩;have h3:=h2 ⟨none,.load ty (.tmp t),0, "",#[],none⟩ rfl;simp only[resRun,execOp,Act.eval,Instr.loadAt,Sem.run_bind] at h3 ⊢;cases hv:a.tmps.getD t undef with
    | pointer p=>
      cases p with
      | some ad=>
        rw[hv] at h3;simp only[Instr.sureAddr,asAddr,Sem.run_pure,Result.andThen_ok] at h3 ⊢;cases hl:(loadVar ty ad).run P w with
        | ok x y=>rw[hl] at h3;simp only[Result.andThen_ok,Sem.run_pure,Result.ok.injEq,Next.value.injEq] at h3;rw[h3.1,h3.2]
        | halt x y=>rw[hl] at h3;simp at h3
      | none=>rw[hv] at h3;simp [Instr.sureAddr,stuck] at h3
    | _=>rw[hv] at h3;simp [Instr.sureAddr,stuck] at h3
theorem resHolds_ok {R0 R:Nat→Prop} {w0:Org} {w:World} {ob:Nat} {a:Act} (hr:RelR F R0 w0 ob R st a w):∀ {rs:List ResultVar} {k:List SV→Prop},resHolds P st rs k→∃ l,k l∧(∀ s∈l,s.ok R w) ∧
    (rs.mapM (resRun a.tmps)).run P w=.ok (l.map SV.den) w
  | [],k,h=>⟨[],h,by simp,rfl⟩
  | r :: rs,k,h=>by
    obtain⟨s,h1,h2,h3⟩:=resVR_ok hr h;obtain⟨l,h4,h5,h6⟩:=resHolds_ok hr h1;refine⟨s :: l,h4,fun x hx=>(List.mem_cons.1 hx).elim (fun e=>e ▸ h2) (h5 x),?_⟩;simp only[List.mapM_cons,Sem.run_bind,List.map_cons];rw[h3];simp only[Result.andThen_ok,h6,Sem.run_pure]
theorem ro_ok {R0 R:Nat→Prop} {w0:Org} {w:World} {ob:Nat} {a:Act} (hr:RelR F R0 w0 ob R st a w) {s:SV} (hs:s.ok R w):(ro st.own s).den=s.den∧(ro st.own s).ok (withOwn st R) w:=by
  cases s with
  | agg n rd=>
    refine⟨?_,fun j hj=>(roArg_ok hr (hs j hj)).2⟩;simp only[ro,SV.den]
    congr 2
    apply List.map_congr_left;intro j hj;exact (roArg_ok hr (hs j (by simpa using hj))).1
  | _=>exact roArg_ok hr hs
theorem Qf {f:FuncId} {fn:Func} {c:Code} {args:List SV} {post:SV→Prop} (hf:P.funcs[f]? = some fn) (hb:fn.body=some c) (hname:(fn.name == "runtime.NumGoroutine")=false)
    (h:Sat P F c ⟨fn.ntmps,Qm 0 args,[]⟩ (retK P fn.results.toList post)):Contract F P f args post:=by
  refine⟨fun vs w=>?_,fun R w hinv hargs hR=>?_⟩
  · have hn:¬ fn.name = "runtime.NumGoroutine" := by simpa using hname
    simp [callFunc,hf,hn,hb]
  · refine calls_of_wp hf hb ?_
    have hrel:RelR F R ⟨w,fun _=>False⟩ w.heap.size R ⟨fn.ntmps,Qm 0 args,[]⟩ { tmps:=(args.map SV.den).toArray ++ Array.replicate (fn.ntmps - (args.map SV.den).toArray.size) undef,defers:=[] } w:=by
      refine⟨rfl,?_,?_,fun i o ho=>by simp at ho,fun i j o o' _ ho=>by simp at ho,Evo.refl _ _,hinv,fun b hb=>F.lt w b hinv hb,fun i o ho=>by simp at ho,Nat.le_refl _,fun b hb=>⟨(hR b hb).1,(hR b hb).2,.inl hb⟩,fun _ h=>h⟩
      · intro t s ht
        obtain⟨j,rfl,hj⟩:=look_argEnv args 0 t s ht;have hlt:=(List.getElem?_eq_some_iff.1 hj).1;refine⟨?_,hargs s (List.mem_of_getElem? hj)⟩;rw[Nat.zero_add,Array.getElem?_append_left (by simpa using hlt)];simp [hj]
      · simp;omega
    refine wp_mono (h R ⟨w,fun _=>False⟩ _ w ⟨_,R,hrel⟩) ?_
    have fin:∀ a' w' st',resHolds P st' fn.results.toList (fun l=>post (resOf st'.own l))→Rel F R ⟨w,fun _=>False⟩ st' a' w'→a'.defers=[]∧∃ v,(results fn a'.tmps).run P w'=.ok v w'∧(fun e w'=>∃ r,e=Ending.returned r.den∧post r∧r.ok (fun b=>R b∨(w.heap.size≤b∧b<w'.heap.size)) w'∧Evo F.M w w'∧F.Inv w') (.returned v) w':=by
      rintro a' w' st' hres ⟨ob,R',hr'⟩;obtain⟨l,hpost,hlok,hrun⟩:=resHolds_ok hr' hres
      have hsub:∀ b,withOwn st' R' b→R b∨(w.heap.size≤b∧b<w'.heap.size):=by
        rintro b (hb|⟨i,o,ho,hb⟩)
        · rcases (hr'.rr b hb).2.2 with h|h|h
          · exact .inl h
          · exact .inr ⟨h,(hr'.rr b hb).1⟩
          · exact h.elim
        · obtain⟨h1,h2,_⟩:=Qw (hr'.own i o ho) hb
          rcases hr'.gb i o ho b hb with h|h
          · exact .inr ⟨h,h2⟩
          · exact h.elim
      have hro:∀ s∈l,(ro st'.own s).den=s.den∧(ro st'.own s).ok (fun b=>R b∨(w.heap.size≤b∧b<w'.heap.size)) w':=fun s hs=>
        ⟨(ro_ok hr' (hlok s hs)).1,Qx hsub (fun _ _=>rfl) _ (ro_ok hr' (hlok s hs)).2⟩
      have hmA:∀ (g:ResultVar→Sem Value),(fn.results.toList.mapM g).run P w'=.ok (l.map SV.den) w'→(fn.results.mapM g).run P w'=.ok (l.map SV.den).toArray w':=by
        intro g hg;rw[Array.mapM_eq_mapM_toList];simp only[Sem.run_map,hg,Result.andThen_ok]
      refine⟨hr'.defers,(resOf st'.own l).den,?_,resOf st'.own l,rfl,hpost,?_,⟨hr'.evo.os,hr'.evo.tape,hr'.evo.output,hr'.evo.size,fun b hb hm=>hr'.evo.block b hb (fun h=>h.elim hm (fun h=>h))⟩,hr'.inv⟩
      · unfold results
        rw[Sem.run_bind];show ((fn.results.mapM (resRun a'.tmps)).run P w').andThen _=_;rw[hmA _ hrun];simp only[Result.andThen_ok,Sem.run_pure,Result.ok.injEq,and_true]
        match l,hro with
        | [s],hro=>simp [resOf,(hro s (by simp)).1]
        | [],hro=>simp [resOf,SV.den]
        | s :: t :: rest,hro=>
          simp only[resOf,SV.den,List.map_cons,List.size_toArray,List.length_cons,List.length_map];rw[dif_neg (by omega)]
          congr 1
          apply Array.ext';apply List.ext_getElem?;intro j;simp only[List.getElem?_map];by_cases hj:j<rest.length+1+1
          · rw[List.getElem?_range hj]
            have hj':j<(s :: t :: rest).length:=by simpa using hj
            have hmem:(s :: t :: rest).getD j default∈s :: t :: rest:=Q6 hj'
            have e1:(s.den :: t.den :: rest.map SV.den)[j]? = some ((s :: t :: rest).getD j default).den:=by
              have:(s.den :: t.den :: rest.map SV.den)=(s :: t :: rest).map SV.den:=rfl
              rw[this,List.getElem?_map,getD_get hj' (d:=default)];rfl
            rw[e1,Option.map_some,(hro _ hmem).1]
          · rw[List.getElem?_eq_none (by simp;omega),List.getElem?_eq_none (by simp;omega)];rfl
      · match l,hro with
        | [s],hro=>exact (hro s (by simp)).2
        | [],hro=>intro j hj;simp at hj
        | s :: t :: rest,hro=>intro j hj;exact (hro _ (Q6 hj)).2
    rintro e a' w' ⟨st',hk,hr'⟩;cases e with
    | normal=>exact fin a' w' st' hk hr'
    | ret=>exact fin a' w' st' hk hr'
    | _=>exact hk.elim
end
end Eng
end Go.Proofs.YtabgkfjfmjdfiaaGreatDoor

namespace Go.Proofs.YtabgkfjfmjdfiaaGreatDoor
namespace Eng
section
variable {P:Program} {F:Frm} {ds:List (Option Tmp)} {rest:List Oper} {n:Nat} {env:List (Nat×SV)} {own:List Own} {k:St→Prop} {dst:Option Tmp} {ty:TypeId} {pos:String} {aft:Array Edge}
def dOk (n:Nat):Option Tmp→Prop
  | some d=>d<n
  | none=>True
theorem dOk_some (n d:Nat):dOk n (some d)=(d<n):=rfl
theorem dOk_none (n:Nat):dOk n none=True:=rfl
theorem look_nil (u:Nat):look [] u=none:=rfl
theorem look_hit (t:Nat) (s:SV) (l:List (Nat×SV)):look ((t,s) :: l) t=some s:=if_pos rfl
theorem look_miss {t u:Nat} (h:t≠u) (s:SV) (l:List (Nat×SV)):look ((t,s) :: l) u=look l u:=if_neg h
theorem put_some (d:Tmp) (s:SV):St.put ⟨n,env,own⟩ (some d) s=⟨n,(d,s) :: env,own⟩:=rfl
theorem put_none (s:SV):St.put ⟨n,env,own⟩ none s=⟨n,env,own⟩:=rfl
theorem ev_tmp (t:Tmp):ev env (.tmp t)=look env t:=rfl
theorem ev_int (k:IntKind) (m:Int):ev env (.const (.int k m))=some (.i k m):=rfl
theorem ev_true:ev env (.const (.bool true))=some .tt:=rfl
theorem ev_false:ev env (.const (.bool false))=some .ff:=rfl
theorem ev_nil:ev env (.const (.slice none 0 0))=some (.sl none 0 0 0 fun _ _=>.v undef):=rfl
theorem ev_str (s:ByteArray):ev env (.const (.string s))=some (.v (.string s)):=rfl
theorem ev_fn (f:FuncId):ev env (.func f)=some (.fn f 0 fun _=>default):=rfl
def WV (P:Program) (F:Frm) (ds:List (Option Tmp)) (rest:List Oper) (dst:Option Tmp) (st:St) (r:VR) (k:St→Prop):Prop:=r.holds fun s=>WO P F ds rest (st.put dst s) k
theorem wv_val {st:St} (s:SV):WV P F ds rest dst st (.val s) k=WO P F ds rest (st.put dst s) k:=rfl
theorem wv_cond {st:St} (p:Prop) (r:VR):WV P F ds rest dst st (.cond p r) k=(p∧WV P F ds rest dst st r k):=rfl
theorem wv_fail {st:St}:WV P F ds rest dst st .fail k=False:=rfl
theorem rOpt_some (s:SV):rOpt (some s)=.val s:=rfl
theorem rOpt_none:rOpt none=.fail:=rfl
theorem wo_nil {st:St}:WO P F ds [] st k=k st:=rfl
theorem wo_move (x:Operand):WO P F ds (⟨dst,.move x,ty,pos,aft,none⟩ :: rest) ⟨n,env,own⟩ k=(dOk n dst∧WV P F ds rest dst ⟨n,env,own⟩ (rOpt (ev env x)) k):=rfl
theorem wo_assign (x:Operand):WO P F ds (⟨dst,.assign x,ty,pos,aft,none⟩ :: rest) ⟨n,env,own⟩ k=(dOk n dst∧WV P F ds rest dst ⟨n,env,own⟩ (rOpt (ev env x)) k):=rfl
theorem wo_pick (c x y:Operand):WO P F ds (⟨dst,.pick c x y,ty,pos,aft,none⟩ :: rest) ⟨n,env,own⟩ k=(dOk n dst∧WV P F ds rest dst ⟨n,env,own⟩ (rPick (ev env c) (ev env x) (ev env y)) k):=rfl
theorem wo_bin (op:BinOp) (t t':TypeId) (x y:Operand):WO P F ds (⟨dst,.binOp op t x y t',ty,pos,aft,none⟩ :: rest) ⟨n,env,own⟩ k=(dOk n dst∧WV P F ds rest dst ⟨n,env,own⟩ (rBinN P t op (ev env x) (ev env y) (nilC y)) k):=rfl
theorem wo_un (op:UnOp) (t:TypeId) (x:Operand):WO P F ds (⟨dst,.unOp op t x,ty,pos,aft,none⟩ :: rest) ⟨n,env,own⟩ k=(dOk n dst∧WV P F ds rest dst ⟨n,env,own⟩ (rUn op (ev env x)) k):=rfl
def WByt (P:Program) (F:Frm) (ds:List (Option Tmp)) (rest:List Oper) (dst:Option Tmp) (st:St) (s d:TK) (x:Option SV) (k:St→Prop):Prop:=
  match x,s,d with
  | some (.v (.string b)),.str,.slice e=>(tk P e=.int .u8∧b.size≤1000000)∧∀ blk cap:Nat,WO P F ds rest (st.put dst (.sl (some ⟨blk,0,none⟩) b.size cap 1 fun i _=>.i .u8 (b.data.toList.getD i 0).toNat)) k
  | _,_,_=>False
theorem wo_conv (s d:TypeId) (x:Operand):WO P F ds (⟨dst,.convert s d x,ty,pos,aft,none⟩ :: rest) ⟨n,env,own⟩ k=(dOk n dst∧if d=22 then WByt P F ds rest dst ⟨n,env,own⟩ (tk P s) (tk P d) (ev env x) k else WV P F ds rest dst ⟨n,env,own⟩ (rConv P own (tk P s) (tk P d) (ev env x)) k):=by
  have e:byT=22:=rfl;simp only[WO,stepO,e];rfl
theorem wo_extract (x:Operand) (ix:Nat):WO P F ds (⟨dst,.extract x ix,ty,pos,aft,none⟩ :: rest) ⟨n,env,own⟩ k=(dOk n dst∧WV P F ds rest dst ⟨n,env,own⟩ (rExtract (ev env x) ix) k):=rfl
theorem wo_fieldAddr (t:TypeId) (x:Operand) (f:Nat):WO P F ds (⟨dst,.fieldAddr t x f,ty,pos,aft,none⟩ :: rest) ⟨n,env,own⟩ k=(dOk n dst∧WV P F ds rest dst ⟨n,env,own⟩ (Zf P (Ql P t f) (ev env x)) k):=rfl
theorem wo_nilCheck (x:Operand):WO P F ds (⟨dst,.nilCheck x,ty,pos,aft,none⟩ :: rest) ⟨n,env,own⟩ k=(dOk n dst∧WV P F ds rest dst ⟨n,env,own⟩ (Zo (ev env x)) k):=rfl
theorem wo_index (t:TypeId) (x i:Operand):WO P F ds (⟨dst,.index t x i,ty,pos,aft,none⟩ :: rest) ⟨n,env,own⟩ k=(dOk n dst∧WV P F ds rest dst ⟨n,env,own⟩ (rIndex P (tk P t) (ev env x) (ev env i)) k):=rfl
theorem wo_field (t:TypeId) (x:Operand) (f:Nat):WO P F ds (⟨dst,.field t x f,ty,pos,aft,none⟩ :: rest) ⟨n,env,own⟩ k=(dOk n dst∧WV P F ds rest dst ⟨n,env,own⟩ (rField P (Ql P t f) (ev env x)) k):=rfl
theorem wo_indexAddr (t:TypeId) (x i:Operand):WO P F ds (⟨dst,.indexAddr t x i,ty,pos,aft,none⟩ :: rest) ⟨n,env,own⟩ k=(dOk n dst∧WV P F ds rest dst ⟨n,env,own⟩ (Q4 P own (tk P t) (ev env x) (ev env i)) k):=rfl
theorem wo_load (t:TypeId) (x:Operand):WO P F ds (⟨dst,.load t x,ty,pos,aft,none⟩ :: rest) ⟨n,env,own⟩ k=(dOk n dst∧WV P F ds rest dst ⟨n,env,own⟩ (rLoad P own t (ev env x)) k):=rfl
def WCut (P:Program) (F:Frm) (ds:List (Option Tmp)) (rest:List Oper) (dst:Option Tmp) (n:Nat) (env:List (Nat×SV)) (own:List Own) (t:TK) (s:Option SV) (lo hi:Option Operand) (k:St→Prop):Prop:=
  match t,s with
  | .slice e,some (.os id a len cap)=>(match own[id]? with
    | some (.row a1 e1 len1 cap1 sz rd)=>(match bound env lo 0,bound env hi len with
      | some l,some h=>(a1=a∧len1=len∧cap1=cap∧tsz P e=sz∧0<sz)∧(if lo.isSome=true∧hi.isNone=true then (0≤l∧l≤(len:Int))∧WO P F ds rest (St.put ⟨n,env,own⟩ dst (.ow id a sz l.toNat (len - l.toNat) (cap - l.toNat))) k else (l=0∧0≤h∧h≤(len:Int))∧WO P F ds rest (St.put ⟨n,env,own.set id (.row a e1 h.toNat cap sz rd)⟩ dst (.os id a h.toNat cap)) k)
      | _,_=>False)
    | _=>False)
  | _,_=>False
def WGood (P:Program) (F:Frm) (ds:List (Option Tmp)) (rest:List Oper) (dst:Option Tmp) (op:Op) (st:St) (k:St→Prop):Prop:=Good P F op dst st fun st'=>WO P F ds rest st' k
theorem wo_slice (t:TypeId) (x:Operand) (lo hi:Option Operand):WO P F ds (⟨dst,.slice t x lo hi none,ty,pos,aft,none⟩ :: rest) ⟨n,env,own⟩ k=(dOk n dst∧(if isRow own (ev env x)=true then WCut P F ds rest dst n env own (tk P t) (ev env x) lo hi k else if isWx (ev env x)=true then WGood P F ds rest dst (.slice t x lo hi none) ⟨n,env,own⟩ k else WV P F ds rest dst ⟨n,env,own⟩ (rSlice P own env (tk P t) (ev env x) lo hi) k)):=rfl
theorem wo_slice3 (t:TypeId) (x m:Operand) (lo hi:Option Operand):WO P F ds (⟨dst,.slice t x lo hi (some m),ty,pos,aft,none⟩ :: rest) ⟨n,env,own⟩ k=(dOk n dst∧(if isWx (ev env x)=true then WGood P F ds rest dst (.slice t x lo hi (some m)) ⟨n,env,own⟩ k else False)):=rfl
theorem wo_build (t:TypeId) (ps:List (Nat×Operand)):WO P F ds (⟨dst,.build t ps.toArray,ty,pos,aft,none⟩ :: rest) ⟨n,env,own⟩ k=(dOk n dst∧WV P F ds rest dst ⟨n,env,own⟩ (rBuild P t (fillS (placesOf P t) (tz P t) (ps.map fun p=>(p.1,ev env p.2)))) k):=by
  simp only[WO,stepO,rOp,WV];rfl
theorem wo_len (x:Operand) (t:TypeId):WO P F ds (⟨dst,.call { callee:=.builtin .len,args:=#[x],argTypes:=#[t] },ty,pos,aft,none⟩ :: rest) ⟨n,env,own⟩ k=(dOk n dst∧WV P F ds rest dst ⟨n,env,own⟩ (rLen (tk P t) (ev env x)) k):=rfl
theorem wo_cap (x:Operand) (t:TypeId):WO P F ds (⟨dst,.call { callee:=.builtin .cap,args:=#[x],argTypes:=#[t] },ty,pos,aft,none⟩ :: rest) ⟨n,env,own⟩ k=(dOk n dst∧WV P F ds rest dst ⟨n,env,own⟩ (rCap (tk P t) (ev env x)) k):=rfl
theorem wo_max (x y:Operand) (ts:Array TypeId):WO P F ds (⟨dst,.call { callee:=.builtin .max,args:=#[x,y],argTypes:=ts },ty,pos,aft,none⟩ :: rest) ⟨n,env,own⟩ k=(dOk n dst∧WV P F ds rest dst ⟨n,env,own⟩ (rMax (ev env x) (ev env y)) k):=rfl
theorem wo_min (x y:Operand) (ts:Array TypeId):WO P F ds (⟨dst,.call { callee:=.builtin .min,args:=#[x,y],argTypes:=ts },ty,pos,aft,none⟩ :: rest) ⟨n,env,own⟩ k=(dOk n dst∧WV P F ds rest dst ⟨n,env,own⟩ (rMin (ev env x) (ev env y)) k):=rfl
theorem wo_alloc (t:TypeId):WO P F ds (⟨dst,.alloc t,ty,pos,aft,none⟩ :: rest) ⟨n,env,own⟩ k=(dOk n dst∧(tz P t≠[]∧(tz P t).all oneS=true)∧∀ blk:Nat,WO P F ds rest (St.put ⟨n,env,own ++ [.box blk t (tz P t)]⟩ dst (.op own.length blk 0)) k):=rfl
def WBox (P:Program) (F:Frm) (ds:List (Option Tmp)) (rest:List Oper) (dst:Option Tmp) (n:Nat) (env:List (Nat×SV)) (own:List Own) (t:TypeId) (s:Option SV) (k:St→Prop):Prop:=
  match s with
  | some s=>(flatOk s=true∧(flat s).all oneS=true)∧∀ blk:Nat,WO P F ds rest (St.put ⟨n,env,own ++ [.box blk t (flat s)]⟩ dst (.op own.length blk 0)) k
  | none=>False
theorem wo_box (t:TypeId) (x:Operand):WO P F ds (⟨dst,.box t x,ty,pos,aft,none⟩ :: rest) ⟨n,env,own⟩ k=(dOk n dst∧WBox P F ds rest dst n env own t (ev env x) k):=rfl
theorem wbox_some (t:TypeId) (s:SV):WBox P F ds rest dst n env own t (some s) k=((flatOk s=true∧(flat s).all oneS=true)∧∀ blk:Nat,WO P F ds rest (St.put ⟨n,env,own ++ [.box blk t (flat s)]⟩ dst (.op own.length blk 0)) k):=rfl
def WSt (P:Program) (F:Frm) (ds:List (Option Tmp)) (rest:List Oper) (dst:Option Tmp) (n:Nat) (env:List (Nat×SV)) (own:List Own) (t:TypeId) (p s:Option SV) (k:St→Prop):Prop:=
  match p,s with
  | some (.op id blk off),some s=>(match own[id]? with
    | some (.box blk' ty cs)=>blk'=blk∧(flatOk s=true∧(flat s).all oneS=true∧(flat s).length=tsz P t∧0<tsz P t∧off+tsz P t≤cs.length)∧WO P F ds rest (St.put ⟨n,env,own.set id (.box blk' ty (lay cs off (flat s)))⟩ dst (.v undef)) k
    | _=>False)
  | some (.oe id blk off ix j),some s=>(match own[id]? with
    | some (.row a e len cap sz rd)=>((a.getD default).block=blk∧ix * sz+j=off)∧ix<len∧(flatOk s=true∧(flat s).all oneS=true∧(flat s).length=tsz P t∧0<tsz P t∧j+tsz P t≤sz)∧WO P F ds rest (St.put ⟨n,env,own.set id (.row a e len cap sz (rdSet rd ix j (flat s)))⟩ dst (.v undef)) k
    | _=>False)
  | _,_=>False
theorem wo_store (t:TypeId) (x y:Operand):WO P F ds (⟨dst,.store t x y,ty,pos,aft,none⟩ :: rest) ⟨n,env,own⟩ k=(dOk n dst∧WSt P F ds rest dst n env own t (ev env x) (ev env y) k):=rfl
def WStB (P:Program) (F:Frm) (ds:List (Option Tmp)) (rest:List Oper) (dst:Option Tmp) (n:Nat) (env:List (Nat×SV)) (own:List Own) (t:TypeId) (id blk off:Nat) (s:SV) (o:Option Own) (k:St→Prop):Prop:=
  match o with
  | some (.box blk' ty cs)=>blk'=blk∧(flatOk s=true∧(flat s).all oneS=true∧(flat s).length=tsz P t∧0<tsz P t∧off+tsz P t≤cs.length)∧WO P F ds rest (St.put ⟨n,env,own.set id (.box blk' ty (lay cs off (flat s)))⟩ dst (.v undef)) k
  | _=>False
theorem wst_op (t:TypeId) (id blk off:Nat) (s:SV):WSt P F ds rest dst n env own t (some (.op id blk off)) (some s) k=WStB P F ds rest dst n env own t id blk off s own[id]? k:=rfl
theorem wstb_box (t:TypeId) (id blk off blk' ty:Nat) (s:SV) (cs:List SV):WStB P F ds rest dst n env own t id blk off s (some (.box blk' ty cs)) k=(blk'=blk∧(flatOk s=true∧(flat s).all oneS=true∧(flat s).length=tsz P t∧0<tsz P t∧off+tsz P t≤cs.length)∧WO P F ds rest (St.put ⟨n,env,own.set id (.box blk' ty (lay cs off (flat s)))⟩ dst (.v undef)) k):=rfl
def WStR (P:Program) (F:Frm) (ds:List (Option Tmp)) (rest:List Oper) (dst:Option Tmp) (n:Nat) (env:List (Nat×SV)) (own:List Own) (t:TypeId) (id blk off ix j:Nat) (s:SV) (o:Option Own) (k:St→Prop):Prop:=
  match o with
  | some (.row a e len cap sz rd)=>((a.getD default).block=blk∧ix * sz+j=off)∧ix<len∧(flatOk s=true∧(flat s).all oneS=true∧(flat s).length=tsz P t∧0<tsz P t∧j+tsz P t≤sz)∧WO P F ds rest (St.put ⟨n,env,own.set id (.row a e len cap sz (rdSet rd ix j (flat s)))⟩ dst (.v undef)) k
  | _=>False
theorem wst_oe (t:TypeId) (id blk off ix j:Nat) (s:SV):WSt P F ds rest dst n env own t (some (.oe id blk off ix j)) (some s) k=WStR P F ds rest dst n env own t id blk off ix j s own[id]? k:=rfl
theorem wstr_row (t:TypeId) (id blk off ix j:Nat) (s:SV) (a:Option Addr) (e len cap sz:Nat) (rd:Nat→Nat→SV):WStR P F ds rest dst n env own t id blk off ix j s (some (.row a e len cap sz rd)) k=(((a.getD default).block=blk∧ix * sz+j=off)∧ix<len∧(flatOk s=true∧(flat s).all oneS=true∧(flat s).length=tsz P t∧0<tsz P t∧j+tsz P t≤sz)∧WO P F ds rest (St.put ⟨n,env,own.set id (.row a e len cap sz (rdSet rd ix j (flat s)))⟩ dst (.v undef)) k):=rfl
def WBs (P:Program) (F:Frm) (ds:List (Option Tmp)) (rest:List Oper) (dst:Option Tmp) (n:Nat) (env:List (Nat×SV)) (own:List Own) (e:TypeId) (m:Nat) (l:Option (List SV)) (k:St→Prop):Prop:=
  match l with
  | some l=>l.all oneS=true∧l.length=m * tsz P e∧∀ blk:Nat,WO P F ds rest (St.put ⟨n,env,own ++ [Own.row (some ⟨blk,0,none⟩) e m m (tsz P e) (rdL l (tsz P e))]⟩ dst (.os own.length (some ⟨blk,0,none⟩) m m)) k
  | none=>False
theorem wbs_some (e:TypeId) (m:Nat) (l:List SV):WBs P F ds rest dst n env own e m (some l) k=(l.all oneS=true∧l.length=m * tsz P e∧∀ blk:Nat,WO P F ds rest (St.put ⟨n,env,own ++ [Own.row (some ⟨blk,0,none⟩) e m m (tsz P e) (rdL l (tsz P e))]⟩ dst (.os own.length (some ⟨blk,0,none⟩) m m)) k):=rfl
def WBsT (P:Program) (F:Frm) (ds:List (Option Tmp)) (rest:List Oper) (dst:Option Tmp) (n:Nat) (env:List (Nat×SV)) (own:List Own) (t:TK) (m:Nat) (ps:List (Nat×Operand)) (k:St→Prop):Prop:=
  match t with
  | .slice e=>(0<tsz P e∧tz P e≠[]∧m * tsz P e≤16777216)∧WBs P F ds rest dst n env own e m (fillS (fun i=>some (i * tsz P e,tsz P e)) ((List.range (m * tsz P e)).map fun q=>(tz P e).getD (q % (tz P e).length) default) (ps.map fun p=>(p.1,ev env p.2))) k
  | _=>False
theorem wbst_slice (e:TypeId) (m:Nat) (ps:List (Nat×Operand)):WBsT P F ds rest dst n env own (.slice e) m ps k=((0<tsz P e∧tz P e≠[]∧m * tsz P e≤16777216)∧WBs P F ds rest dst n env own e m (fillS (fun i=>some (i * tsz P e,tsz P e)) ((List.range (m * tsz P e)).map fun q=>(tz P e).getD (q % (tz P e).length) default) (ps.map fun p=>(p.1,ev env p.2))) k):=rfl
theorem wo_buildSlice (t:TypeId) (m:Nat) (ps:List (Nat×Operand)):WO P F ds (⟨dst,.buildSlice t m ps.toArray,ty,pos,aft,none⟩ :: rest) ⟨n,env,own⟩ k=(dOk n dst∧WBsT P F ds rest dst n env own (tk P t) m ps k):=by
  simp only[WO,stepO,sBuildSlice,WBsT,WBs];rfl
def WApp (P:Program) (F:Frm) (ds:List (Option Tmp)) (rest:List Oper) (dst:Option Tmp) (n:Nat) (env:List (Nat×SV)) (own:List Own) (t:TK) (s:Option SV) (y:Option (Option Addr×Nat×Nat×Nat×(Nat→Nat→SV))) (k:St→Prop):Prop:=
  match t,s,y with
  | .slice e,some s,some (a',m,_,sz,rd')=>(tsz P e=sz∧0<sz∧(tz P e).length=sz)∧(match s with
      | .sl none 0 0 _ _=>(m≤maxLen∧m * tby P e≤140737488355328)∧∀ (a:Option Addr) (cap:Nat),WO P F ds rest (St.put ⟨n,env,own ++ [Own.row a e m cap sz rd']⟩ dst (.os own.length a m cap)) k
      | .os id a len cap=>(match own[id]? with
        | some (.row a1 e1 len1 cap1 sz1 rd)=>(a1=a∧len1=len∧cap1=cap∧e1=e∧sz1=sz)∧(len+m≤maxLen∧(len+m) * tby P e≤140737488355328) ∧
          ∀ (a2:Option Addr) (cap2:Nat),WO P F ds rest (St.put ⟨n,env,own.set id (Own.row a2 e (len+m) cap2 sz (Q3 len rd rd'))⟩ dst (.os id a2 (len+m) cap2)) k
        | _=>False)
      | _=>False)
  | _,_,_=>False
def WZer (P:Program) (F:Frm) (ds:List (Option Tmp)) (rest:List Oper) (dst:Option Tmp) (n:Nat) (env:List (Nat×SV)) (own:List Own) (t t':TK) (s y:Option SV) (k:St→Prop):Prop:=
  match t,t',s,y with
  | .slice e,.int _,some (.sl none 0 0 _ _),some (.i _ m)=>(0<m∧m≤9223372036854775807∧m * (tby P e:Nat)≤281474976710656)∧(0<tsz P e∧(tz P e).length=tsz P e∧(tz P e).all oneS=true) ∧
    ∀ (a:Option Addr) (cap:Nat),WO P F ds rest (St.put ⟨n,env,own ++ [Own.row a e m.toNat cap (tsz P e) (fun _ j=>(tz P e).getD j default)]⟩ dst (.os own.length a m.toNat cap)) k
  | _,_,_,_=>False
def WMk (P:Program) (F:Frm) (ds:List (Option Tmp)) (rest:List Oper) (dst:Option Tmp) (n:Nat) (env:List (Nat×SV)) (own:List Own) (t:TK) (x y:Option SV) (k:St→Prop):Prop:=
  match t,x,y with
  | .slice e,some (.i _ m'),some (.i _ m)=>(m'=m∧0≤m∧m≤4611686018427387903∧m * (tby P e:Nat)≤281474976710656)∧(0<tsz P e∧(tz P e).length=tsz P e∧(tz P e).all oneS=true) ∧
    ∀ (a:Option Addr) (cap:Nat),WO P F ds rest (St.put ⟨n,env,own ++ [Own.row a e m.toNat cap (tsz P e) (fun _ j=>(tz P e).getD j default)]⟩ dst (.os own.length a m.toNat cap)) k
  | _,_,_=>False
theorem wo_makeSlice (t:TypeId) (x y:Operand):WO P F ds (⟨dst,.makeSlice t x y,ty,pos,aft,none⟩ :: rest) ⟨n,env,own⟩ k=(dOk n dst∧WMk P F ds rest dst n env own (tk P t) (ev env x) (ev env y) k):=by
  simp only[WO,stepO,sMake];rfl
theorem wmk_int (e:TypeId) (k1 k2:IntKind) (m' m:Int):WMk P F ds rest dst n env own (.slice e) (some (.i k1 m')) (some (.i k2 m)) k=((m'=m∧0≤m∧m≤4611686018427387903∧m * (tby P e:Nat)≤281474976710656)∧(0<tsz P e∧(tz P e).length=tsz P e∧(tz P e).all oneS=true) ∧
    ∀ (a:Option Addr) (cap:Nat),WO P F ds rest (St.put ⟨n,env,own ++ [Own.row a e m.toNat cap (tsz P e) (fun _ j=>(tz P e).getD j default)]⟩ dst (.os own.length a m.toNat cap)) k):=rfl
theorem wo_append (t t':TypeId) (x y:Operand):WO P F ds (⟨dst,.call { callee:=.builtin .append,args:=#[x,y],argTypes:=#[t,t'] },ty,pos,aft,none⟩ :: rest) ⟨n,env,own⟩ k=(dOk n dst∧(if (isWx (ev env x) || isStr (ev env y))=true then WGood P F ds rest dst (.call { callee:=.builtin .append,args:=#[x,y],argTypes:=#[t,t'] }) ⟨n,env,own⟩ k else if t=t' then WApp P F ds rest dst n env own (tk P t) (ev env x) ((ev env y).bind (asAny own)) k else WZer P F ds rest dst n env own (tk P t) (tk P t') (ev env x) (ev env y) k)):=by
  simp only[WO,stepO,sAppend,sZeros]
  congr 1
  by_cases hw:(isWx (ev env x) || isStr (ev env y))=true
  · rw[if_pos hw,if_pos hw];rfl
  rw[if_neg hw,if_neg hw];by_cases e:t=t'
  · rw[if_pos e,if_pos e]
    unfold WApp;cases tk P t<;>cases ev env x<;>cases ev env y<;>first|rfl|(simp only[Option.bind_some];cases asAny own _<;>rfl)
  · rw[if_neg e,if_neg e]
    rfl
theorem wapp_nil (e sz0:Nat) (rd0:Nat→Nat→SV) (a':Option Addr) (m c sz:Nat) (rd':Nat→Nat→SV):WApp P F ds rest dst n env own (.slice e) (some (.sl none 0 0 sz0 rd0)) (some (a',m,c,sz,rd')) k=((tsz P e=sz∧0<sz∧(tz P e).length=sz)∧(m≤maxLen∧m * tby P e≤140737488355328)∧∀ (a:Option Addr) (cap:Nat),WO P F ds rest (St.put ⟨n,env,own ++ [Own.row a e m cap sz rd']⟩ dst (.os own.length a m cap)) k):=rfl
def WAppR (P:Program) (F:Frm) (ds:List (Option Tmp)) (rest:List Oper) (dst:Option Tmp) (n:Nat) (env:List (Nat×SV)) (own:List Own) (e id:Nat) (a:Option Addr) (len cap m sz:Nat) (rd':Nat→Nat→SV) (o:Option Own) (k:St→Prop):Prop:=
  match o with
  | some (.row a1 e1 len1 cap1 sz1 rd)=>(a1=a∧len1=len∧cap1=cap∧e1=e∧sz1=sz)∧(len+m≤maxLen∧(len+m) * tby P e≤140737488355328) ∧
          ∀ (a2:Option Addr) (cap2:Nat),WO P F ds rest (St.put ⟨n,env,own.set id (Own.row a2 e (len+m) cap2 sz (Q3 len rd rd'))⟩ dst (.os id a2 (len+m) cap2)) k
  | _=>False
theorem wapp_own (e id:Nat) (a:Option Addr) (len cap:Nat) (a':Option Addr) (m c sz:Nat) (rd':Nat→Nat→SV):WApp P F ds rest dst n env own (.slice e) (some (.os id a len cap)) (some (a',m,c,sz,rd')) k=((tsz P e=sz∧0<sz∧(tz P e).length=sz)∧WAppR P F ds rest dst n env own e id a len cap m sz rd' own[id]? k):=rfl
theorem wappr_row (e id:Nat) (a:Option Addr) (len cap m sz:Nat) (rd':Nat→Nat→SV) (a1:Option Addr) (e1 len1 cap1 sz1:Nat) (rd:Nat→Nat→SV):WAppR P F ds rest dst n env own e id a len cap m sz rd' (some (.row a1 e1 len1 cap1 sz1 rd)) k=((a1=a∧len1=len∧cap1=cap∧e1=e∧sz1=sz)∧(len+m≤maxLen∧(len+m) * tby P e≤140737488355328) ∧
          ∀ (a2:Option Addr) (cap2:Nat),WO P F ds rest (St.put ⟨n,env,own.set id (Own.row a2 e (len+m) cap2 sz (Q3 len rd rd'))⟩ dst (.os id a2 (len+m) cap2)) k):=rfl
def WCall (P:Program) (F:Frm) (ds:List (Option Tmp)) (rest:List Oper) (dst:Option Tmp) (st:St) (f:FuncId) (l:Option (List SV)) (k:St→Prop):Prop:=
  match l with
  | some l=>CallX P F f l st dst fun st'=>WO P F ds rest st' k
  | none=>False
def WClr (P:Program) (F:Frm) (ds:List (Option Tmp)) (rest:List Oper) (dst:Option Tmp) (n:Nat) (env:List (Nat×SV)) (own:List Own) (t:TK) (s:Option SV) (k:St→Prop):Prop:=
  match t,s with
  | .slice e,some (.ow id a sz0 off len cap)=>(match own[id]? with
    | some (.row a1 e1 len1 cap1 sz rd)=>(a1=a∧sz0=sz∧len1=off+len∧cap1=off+cap)∧(0<tsz P e∧tsz P e=sz∧(tz P e).length=sz∧(tz P e).all oneS=true) ∧
      WO P F ds rest (St.put ⟨n,env,own.set id (.row a1 e1 len1 cap1 sz (Q3 off rd fun _ j=>(tz P e).getD j default))⟩ dst (.tup 0 fun _=>default)) k
    | _=>False)
  | _,_=>False
theorem wo_clear (x:Operand) (t:TypeId):WO P F ds (⟨dst,.call { callee:=.builtin .clear,args:=#[x],argTypes:=#[t] },ty,pos,aft,none⟩ :: rest) ⟨n,env,own⟩ k=(dOk n dst∧(if isWx (ev env x)=true then WGood P F ds rest dst (.call { callee:=.builtin .clear,args:=#[x],argTypes:=#[t] }) ⟨n,env,own⟩ k else WClr P F ds rest dst n env own (tk P t) (ev env x) k)):=rfl
def WCpR (P:Program) (F:Frm) (ds:List (Option Tmp)) (rest:List Oper) (dst:Option Tmp) (n:Nat) (env:List (Nat×SV)) (own:List Own) (e id:Nat) (a:Option Addr) (sz0 off len cap id2:Nat) (a2:Option Addr) (sz2 off2 len2 cap2:Nat) (o:Option Own) (k:St→Prop):Prop:=
  match o with
  | some (.row a1 e1 len1 cap1 sz rd)=>(id2=id∧a1=a∧a2=a∧sz0=sz∧sz2=sz∧len1=off+len∧cap1=off+cap∧len1=off2+len2∧cap1=off2+cap2∧tsz P e=sz∧0<sz) ∧
      WO P F ds rest (St.put ⟨n,env,own.set id (.row a1 e1 len1 cap1 sz (rdMove off off2 (min len2 len) rd))⟩ dst (.i .i64 (min len2 len:Nat))) k
  | _=>False
def WCpy (P:Program) (F:Frm) (ds:List (Option Tmp)) (rest:List Oper) (dst:Option Tmp) (n:Nat) (env:List (Nat×SV)) (own:List Own) (t:TK) (s s':Option SV) (k:St→Prop):Prop:=
  match t,s,s' with
  | .slice e,some (.ow id a sz0 off len cap),some (.ow id2 a2 sz2 off2 len2 cap2)=>WCpR P F ds rest dst n env own e id a sz0 off len cap id2 a2 sz2 off2 len2 cap2 own[id]? k
  | _,_,_=>False
theorem wo_copy (x y:Operand) (t t':TypeId):WO P F ds (⟨dst,.call { callee:=.builtin .copy,args:=#[x,y],argTypes:=#[t,t'] },ty,pos,aft,none⟩ :: rest) ⟨n,env,own⟩ k=(dOk n dst∧(if isWx (ev env x)=true then WGood P F ds rest dst (.call { callee:=.builtin .copy,args:=#[x,y],argTypes:=#[t,t'] }) ⟨n,env,own⟩ k else WCpy P F ds rest dst n env own (tk P t) (ev env x) (ev env y) k)):=by
  simp only[WO,stepO,sCopy,WCpy,WCpR];rfl
theorem wcpy_ow (e id:Nat) (a:Option Addr) (sz0 off len cap id2:Nat) (a2:Option Addr) (sz2 off2 len2 cap2:Nat):WCpy P F ds rest dst n env own (.slice e) (some (.ow id a sz0 off len cap)) (some (.ow id2 a2 sz2 off2 len2 cap2)) k=WCpR P F ds rest dst n env own e id a sz0 off len cap id2 a2 sz2 off2 len2 cap2 own[id]? k:=rfl
theorem wcpr_row (e id:Nat) (a:Option Addr) (sz0 off len cap id2:Nat) (a2:Option Addr) (sz2 off2 len2 cap2:Nat) (a1:Option Addr) (e1 len1 cap1 sz:Nat) (rd:Nat→Nat→SV):WCpR P F ds rest dst n env own e id a sz0 off len cap id2 a2 sz2 off2 len2 cap2 (some (.row a1 e1 len1 cap1 sz rd)) k=((id2=id∧a1=a∧a2=a∧sz0=sz∧sz2=sz∧len1=off+len∧cap1=off+cap∧len1=off2+len2∧cap1=off2+cap2∧tsz P e=sz∧0<sz) ∧
      WO P F ds rest (St.put ⟨n,env,own.set id (.row a1 e1 len1 cap1 sz (rdMove off off2 (min len2 len) rd))⟩ dst (.i .i64 (min len2 len:Nat))) k):=rfl
theorem wo_call (f:FuncId) (args:List Operand) (ts:Array TypeId):WO P F ds (⟨dst,.call { callee:=.value (.func f),args:=args.toArray,argTypes:=ts },ty,pos,aft,none⟩ :: rest) ⟨n,env,own⟩ k=(dOk n dst∧WCall P F ds rest dst ⟨n,env,own⟩ f (evs env args) k):=by
  simp only[WO,stepO];rfl
theorem Qe {f:FuncId} {args args':List SV} {post:SV→Prop} {st:St} (h:Contract F P f args' post) (ha:args.map (roArg st.own)=args') (hp:∀ r,post r→∀ R w,r.ok R w) (hk:∀ r,post r→WO P F ds rest (st.put dst r) k):WCall P F ds rest dst st f (some args) k:=by
  unfold WCall;exact .inl <| callK_plain (k:=fun st'=>WO P F ds rest st' k) (by rw[ha];exact h) hp hk
theorem Qc {f:FuncId} {args args':List SV} {post:SV→Prop} {st:St} {own':List Own} (h:Contract F P f args' post) (ho:frz st.own args=own') (ha:args.map (roArgS own')=args') (hk:∀ r,post r→WO P F ds rest (St.put { st with own:=own' } dst r) k):WCall P F ds rest dst st f (some args) k:=by
  subst ho;unfold WCall;exact .inl <| callK_slice (k:=fun st'=>WO P F ds rest st' k) (by rw[ha];exact h) hk
def WCallV (P:Program) (F:Frm) (ds:List (Option Tmp)) (rest:List Oper) (dst:Option Tmp) (st:St) (g:Option SV) (l:Option (List SV)) (k:St→Prop):Prop:=
  match g,l with
  | some (.fn f n rd),some l=>CallX P F f (l ++ (List.range n).map rd) st dst fun st'=>WO P F ds rest st' k
  | _,_=>False
theorem wo_callv (t:Nat) (args:List Operand) (ts:Array TypeId):WO P F ds (⟨dst,.call { callee:=.value (.tmp t),args:=args.toArray,argTypes:=ts },ty,pos,aft,none⟩ :: rest) ⟨n,env,own⟩ k=(dOk n dst∧WCallV P F ds rest dst ⟨n,env,own⟩ (look env t) (evs env args) k):=by
  simp only[WO,stepO];rfl
theorem wcallv_fn {f:FuncId} {m:Nat} {rd:Nat→SV} {l:List SV} {st:St}:WCallV P F ds rest dst st (some (.fn f m rd)) (some l) k=WCall P F ds rest dst st f (some (l ++ (List.range m).map rd)) k:=rfl
theorem rFunc_some (f:FuncId) (l:List SV):rFunc f (some l)=.val (.fn f l.length fun j=>l.getD j default):=rfl
theorem wo_makeFunc (f:FuncId) (caps:List Operand):WO P F ds (⟨dst,.makeFunc (.func f) #[] caps.toArray,ty,pos,aft,none⟩ :: rest) ⟨n,env,own⟩ k=(dOk n dst∧WV P F ds rest dst ⟨n,env,own⟩ (rFunc f (evs env caps)) k):=rfl
theorem evs_nil:evs env []=some []:=rfl
theorem evs_cons (x:Operand) (xs:List Operand):evs env (x :: xs)=(ev env x).bind fun s=>(evs env xs).map (s :: ·):=by
  simp only[evs];cases ev env x<;>cases evs env xs<;>rfl
def WG (P:Program) (F:Frm) (ds:List (Option Tmp)) (dst:Option Tmp) (op:Op) (rest:List Oper) (n:Nat) (env:List (Nat×SV)) (own:List Own) (want:Bool) (t:Option Tmp) (k:St→Prop):Prop:=
  match t with
  | none=>False
  | some t=>match look env t with
    | some .tt=>if want=true then WO P F ds (⟨dst,op,0, "",#[],none⟩ :: rest) ⟨n,env,own⟩ k else dOk n dst∧WO P F ds rest (St.put ⟨n,env,own⟩ dst (.v undef)) k
    | some .ff=>if want=false then WO P F ds (⟨dst,op,0, "",#[],none⟩ :: rest) ⟨n,env,own⟩ k else dOk n dst∧WO P F ds rest (St.put ⟨n,env,own⟩ dst (.v undef)) k
    | some (.v (.tuple _))=>dOk n dst∧WO P F ds rest (St.put ⟨n,env,own⟩ dst (.v undef)) k
    | some (.b x)=>t<n∧(x=true→if want=true then WO P F ds (⟨dst,op,0, "",#[],none⟩ :: rest) ⟨n,(t,.tt) :: env,own⟩ k else dOk n dst∧WO P F ds rest (St.put ⟨n,(t,.tt) :: env,own⟩ dst (.v undef)) k) ∧
        (x=false→if want=false then WO P F ds (⟨dst,op,0, "",#[],none⟩ :: rest) ⟨n,(t,.ff) :: env,own⟩ k else dOk n dst∧WO P F ds rest (St.put ⟨n,(t,.ff) :: env,own⟩ dst (.v undef)) k)
    | _=>False
theorem wo_guard (op:Op) (j:Nat) (want:Bool):WO P F ds (⟨dst,op,ty,pos,aft,some (j,want)⟩ :: rest) ⟨n,env,own⟩ k=WG P F ds dst op rest n env own want ((ds[j]?).bind id) k:=by
  simp only[WO,WG];cases (ds[j]?).bind id with
  | none=>rfl
  | some t=>
    simp only[];cases look env t with
    | none=>rfl
    | some s=>cases s<;>first|rfl|(rename_i x;cases x<;>rfl)
def WG2 (P:Program) (F:Frm) (ds:List (Option Tmp)) (dst:Option Tmp) (op:Op) (rest:List Oper) (n:Nat) (env:List (Nat×SV)) (own:List Own) (want:Bool) (t:Tmp) (g:Option SV) (k:St→Prop):Prop:=
  match g with
    | some .tt=>if want=true then WO P F ds (⟨dst,op,0, "",#[],none⟩ :: rest) ⟨n,env,own⟩ k else dOk n dst∧WO P F ds rest (St.put ⟨n,env,own⟩ dst (.v undef)) k
    | some .ff=>if want=false then WO P F ds (⟨dst,op,0, "",#[],none⟩ :: rest) ⟨n,env,own⟩ k else dOk n dst∧WO P F ds rest (St.put ⟨n,env,own⟩ dst (.v undef)) k
    | some (.v (.tuple _))=>dOk n dst∧WO P F ds rest (St.put ⟨n,env,own⟩ dst (.v undef)) k
    | some (.b x)=>t<n∧(x=true→if want=true then WO P F ds (⟨dst,op,0, "",#[],none⟩ :: rest) ⟨n,(t,.tt) :: env,own⟩ k else dOk n dst∧WO P F ds rest (St.put ⟨n,(t,.tt) :: env,own⟩ dst (.v undef)) k) ∧
        (x=false→if want=false then WO P F ds (⟨dst,op,0, "",#[],none⟩ :: rest) ⟨n,(t,.ff) :: env,own⟩ k else dOk n dst∧WO P F ds rest (St.put ⟨n,(t,.ff) :: env,own⟩ dst (.v undef)) k)
    | _=>False
theorem wg_some (op:Op) (want:Bool) (t:Tmp):WG P F ds dst op rest n env own want (some t) k=WG2 P F ds dst op rest n env own want t (look env t) k:=by
  simp only[WG,WG2]
theorem wg_tt_true (op:Op) (t:Tmp):WG2 P F ds dst op rest n env own true t (some .tt) k=WO P F ds (⟨dst,op,0, "",#[],none⟩ :: rest) ⟨n,env,own⟩ k:=rfl
theorem wg_tt_false (op:Op) (t:Tmp):WG2 P F ds dst op rest n env own false t (some .tt) k=(dOk n dst∧WO P F ds rest (St.put ⟨n,env,own⟩ dst (.v undef)) k):=rfl
theorem wg_ff_true (op:Op) (t:Tmp):WG2 P F ds dst op rest n env own true t (some .ff) k=(dOk n dst∧WO P F ds rest (St.put ⟨n,env,own⟩ dst (.v undef)) k):=rfl
theorem wg_ff_false (op:Op) (t:Tmp):WG2 P F ds dst op rest n env own false t (some .ff) k=WO P F ds (⟨dst,op,0, "",#[],none⟩ :: rest) ⟨n,env,own⟩ k:=rfl
theorem wg_undef (op:Op) (want:Bool) (t:Tmp):WG2 P F ds dst op rest n env own want t (some (.v undef)) k=(dOk n dst∧WO P F ds rest (St.put ⟨n,env,own⟩ dst (.v undef)) k):=rfl
theorem wg_b (op:Op) (want:Bool) (t:Tmp) (x:Bool):WG2 P F ds dst op rest n env own want t (some (.b x)) k=(t<n∧(x=true→WG2 P F ds dst op rest n ((t,.tt) :: env) own want t (some .tt) k)∧(x=false→WG2 P F ds dst op rest n ((t,.ff) :: env) own want t (some .ff) k)):=rfl
theorem Contract.mono {f:FuncId} {args:List SV} {post post':SV→Prop} (h:Contract F P f args post) (hp:∀ r,post r→post' r):Contract F P f args post':=
  ⟨h.enters,fun R w h1 h2 h3=>(h.calls R w h1 h2 h3).mono fun e w' ⟨r,a,b,c⟩=>⟨r,a,hp r b,c⟩⟩
theorem Qa {st:St} {K:Exit→St→Prop} {id:Nat} {l:List Oper} (h:∀ k:St→Prop,(∀ st',K .normal st'→k st')→WO P F (l.map (·.dst)) l st k):Sat P F (.region id l.toArray false) st K:=
  Sat.region (h _ fun _ h=>h)
theorem ZC {st:St} {K:Exit→St→Prop} {id:Nat} {l:List Oper} (hm:P.follows .mixedOrders=true) (hB:Region.lexB .any l.toArray=true) (h:∀ k:St→Prop,(∀ st',K .normal st'→k st')→WQ P (l.map (·.dst)) l st k):Sat P F (.region id l.toArray true) st K:=
  Sat.region_q hm hB (h _ fun _ h=>h)
theorem Sat.weak {c:Code} {st:St} {K:Exit→St→Prop} (h:Sat P F c st (fun e st'=>∃ st2,K e st2∧Le st' st2)):Sat P F c st K:=
  fun R0 w0 a w hr=>wp_mono (h R0 w0 a w hr) fun e a' w' ⟨st',⟨st2,hk,hl⟩,hr'⟩=>⟨st2,hk,hr'.le hl⟩
theorem rdEq_snoc {n sz:Nat} {rd rd':Nat→Nat→SV} {cs:List SV} (h1:rdEq n sz rd rd') (h2:∀ j,j<sz→cs.getD j default=rd' n j):rdEq (n+1) sz (Q3 n rd (rdL cs sz)) rd':=by
  intro i j hi hj;unfold Q3 rdL;split
  · exact h1 i j (by assumption) hj
  · obtain rfl:i=n:=by omega
    rw[Nat.sub_self,Nat.zero_mul,Nat.zero_add];exact h2 j hj
theorem rdEq_one {n:Nat} {rd rd':Nat→Nat→SV} {x:SV} (h1:rdEq n 1 rd rd') (h2:x=rd' n 0):rdEq (n+1) 1 (Q3 n rd (rdL [x] 1)) rd':=
  rdEq_snoc h1 fun j hj=>by
      obtain rfl:j=0:=by omega
      exact h2
theorem rdEq_refl (n sz:Nat) (rd:Nat→Nat→SV):rdEq n sz rd rd:=fun _ _ _ _=>rfl
theorem fnEq_same {f:List Int→Option Int}:fnEq f f=True:=eq_true fun _=>rfl
theorem mqEq_same {n:Nat} {key:Nat→List Int} {val:Nat→SV}:mqEq n key val key val=True:=eq_true fun _ _=>⟨rfl,rfl⟩
theorem rdEq_same {len sz:Nat} {rd:Nat→Nat→SV}:rdEq len sz rd rd=True:=eq_true fun _ _ _ _=>rfl
theorem Sat.at {c:Code} {st:St} {K:Exit→St→Prop} (st2:St) (h:Sat P F c st (Qg (fun st'=>Le st' st2) K)) (hk:K .normal st2):Sat P F c st K:=
  fun R0 w0 a w hr=>wp_mono (h R0 w0 a w hr) fun e a' w' ⟨st',hk',hr'⟩=>by
    cases e with
    | normal=>exact⟨st2,hk,hr'.le hk'⟩
    | _=>exact⟨st',hk',hr'⟩
theorem Sat.atF {c:Code} {st:St} {K:Exit→St→Prop} {ι:Type} (sh:ι→St) (J:ι→Prop) (h:Sat P F c st (Qg (fun st'=>∃ z,J z∧Le st' (sh z)) K)) (hk:∀ z,J z→K .normal (sh z)):Sat P F c st K:=
  fun R0 w0 a w hr=>wp_mono (h R0 w0 a w hr) fun e a' w' ⟨st',hk',hr'⟩=>by
    cases e with
    | normal=>obtain⟨z,hz,hl⟩:=hk';exact⟨sh z,hk z hz,hr'.le hl⟩
    | _=>exact⟨st',hk',hr'⟩
theorem Zr {c:Code} {K:Exit→St→Prop} (t:Nat) (e sz:Nat) (rd:Nat→Nat→SV) {sz0:Nat} {rd0:Nat→Nat→SV} (hl:look env t=some (.sl none 0 0 sz0 rd0)) (h:Sat P F c ⟨n,(t,.os own.length none 0 0) :: env,own ++ [.row none e 0 0 sz rd]⟩ K):Sat P F c ⟨n,env,own⟩ K:=by
  rintro R0 w0 a w ⟨ob,R,hr⟩;refine h R0 w0 a w ⟨ob,R,?_⟩;have h1:=hr.newRow (o:=.row none e 0 0 sz rd) (w':=w) (grown_refl w none) (fun b hb=>by cases hb) ⟨by simpa [cellsOf] using World.ownsRow_nil w _ e sz,(fun g hg=>by cases hg),(fun i j hi=>absurd hi (Nat.not_lt_zero _))⟩;exact h1.know (s:=.sl none 0 0 sz0 rd0) (s':=.os own.length none 0 0) hl rfl (fun _=>trivial)
def sim (s s':SV):Prop:=s.den=s'.den∧∀ R w,s.ok R w→s'.ok R w
def simA:List SV→List SV→Prop
  | [],[]=>True
  | s :: l,s' :: l'=>sim s s'∧simA l l'
  | _,_=>False
theorem sim_refl (s:SV):sim s s:=⟨rfl,fun _ _ h=>h⟩
theorem sim_sl {a:Option Addr} {len cap sz:Nat} {rd rd':Nat→Nat→SV} (h:rdEq len sz rd rd'):sim (.sl a len cap sz rd) (.sl a len cap sz rd'):=by
  refine⟨rfl,fun R w hok=>?_⟩;obtain⟨h1,h2,h3⟩:=hok;refine⟨h1,h2,?_⟩;rcases h3 with h3|⟨blk,off,ha,hR,hc⟩
  · exact .inl h3
  · exact .inr ⟨blk,off,ha,hR,fun i j hi hj=>by rw[← h i j hi hj];exact hc i j hi hj⟩
theorem simA_den:∀ {l l':List SV},simA l l'→l.map SV.den=l'.map SV.den
  | [],[],_=>rfl
  | s :: l,s' :: l',⟨h1,h2⟩=>by simp [h1.1,simA_den h2]
theorem simA_ok {R:Nat→Prop} {w:World}:∀ {l l':List SV},simA l l'→(∀ s∈l,s.ok R w)→∀ s∈l',s.ok R w
  | [],[],_,_,s,hs=>by cases hs
  | a :: l,a' :: l',⟨h1,h2⟩,h,s,hs=>by
    rcases List.mem_cons.1 hs with rfl|hs
    · exact h1.2 R w (h a (by simp))
    · exact simA_ok h2 (fun x hx=>h x (by simp [hx])) s hs
theorem Contract.of_sim {f:FuncId} {args args':List SV} {post:SV→Prop} (h:Contract F P f args' post) (hs:simA args args'):Contract F P f args post:=
  ⟨h.enters,fun R w h1 h2 h3=>by rw[simA_den hs];exact h.calls R w h1 (simA_ok hs h2) h3⟩
structure Makes (P:Program) (f:FuncId) (args:List SV) (p:Nat→World→Prop):Prop where
  enters:∀ vs w,(callFunc f vs).run P w=.ok (.enter f vs) w
  calls:∀ (R:Nat→Prop) (w:World),(∀ s∈args,s.ok R w)→(∀ b,R b→b<w.heap.size) →
    Calls P f (args.map SV.den).toArray w fun e w'=>e=.returned (.pointer (some ⟨w.heap.size,0,none⟩))∧w.heap.size<w'.heap.size∧Evo (fun _=>False) w w'∧∀ w'':World,(∀ b,(R b∨b=w.heap.size)→w''.heap[b]? = w'.heap[b]?)→p w.heap.size w''
theorem wcall_make {f:FuncId} {args:List SV} {p:Nat→World→Prop} (h:Makes P f args p) (hk:∀ cb:Nat,WO P F ds rest (St.put ⟨n,env,own ++ [.res cb (p cb)]⟩ dst (.v (.pointer (some ⟨cb,0,none⟩)))) k):WCall P F ds rest dst ⟨n,env,own⟩ f (some args) k:=by
  unfold WCall;refine .inl ?_;intro R0 w0 ob R a w hr hargs;refine⟨h.enters,?_⟩;refine (h.calls R w hargs (fun b hb=>(hr.rr b hb).1)).mono ?_;rintro e w' ⟨rfl,hlt,hevo,hp⟩;have hg:w.grownBy w' none:=⟨hevo.os,hevo.tape,hevo.output,hevo.size,fun b hb _=>hevo.block b hb (fun h=>h)⟩;have hnew:=hr.newRow (o:=.res w.heap.size (p w.heap.size)) hg (fun b hb=>by simpa [Own.blk] using hb.symm) ⟨hr.obw,fun hc=>by have:=(hr.rr _ hc).1;omega,hlt,hp⟩;exact⟨.v (.pointer (some ⟨w.heap.size,0,none⟩)),_,R,rfl,hk w.heap.size,trivial,hnew,rfl⟩
theorem Qj {st:St} {K:Exit→St→Prop} {id:Nat} {l:List Oper} (st2:St) (h:∀ k:St→Prop,(∀ st',Le st' st2→k st')→WO P F (l.map (·.dst)) l st k) (hk:K .normal st2):Sat P F (.region id l.toArray false) st K:=
  Sat.weak (Sat.region (h (fun st'=>∃ st2,K .normal st2∧Le st' st2) fun st' hl=>⟨st2,hk,hl⟩))
def plainS:SV→Bool
  | .i _ _=>true
  | .b _=>true
  | .tt=>true
  | .ff=>true
  | .v _=>true
  | _=>false
theorem Qi {s:SV} (h:plainS s=true) (R:Nat→Prop) (w:World):s.ok R w:=by cases s<;>first|trivial|cases h
def QW (l:List SV):SV:=.tup l.length fun j=>l.getD j default
theorem Zz {l:List SV} (h:l.all plainS=true) (R:Nat→Prop) (w:World):(QW l).ok R w:=fun j hj=>Qi (List.all_eq_true.1 h _ (Q6 hj)) R w
theorem getD_map_ro (l:List SV) (j:Nat):ro own (l.getD j default)=(l.map (ro own)).getD j default:=by
  simp only[List.getD,List.getElem?_map];cases l[j]?<;>rfl
theorem resOf_nil:resOf own []=QW []:=rfl
theorem resOf_one (x:SV):resOf own [x]=ro own x:=rfl
theorem resOf_two (x y:SV):resOf own [x,y]=QW [ro own x,ro own y]:=by
  simp only[resOf,QW,getD_map_ro];rfl
theorem resOf_three (x y z:SV):resOf own [x,y,z]=QW [ro own x,ro own y,ro own z]:=by
  simp only[resOf,QW,getD_map_ro];rfl
theorem ro_list (n:Nat) (l:List SV):ro own (.agg n fun j=>l.getD j default)=.agg n fun j=>(l.map (roArg own)).getD j default:=by
  simp only[ro]
  congr 1
  funext j
  simp only[List.getD,List.getElem?_map];cases l[j]?<;>rfl
theorem ro_i (k:IntKind) (n:Int):ro own (.i k n)=.i k n:=rfl
theorem ro_b (x:Bool):ro own (.b x)=.b x:=rfl
theorem ro_tt:ro own .tt=.b true:=rfl
theorem ro_ff:ro own .ff=.b false:=rfl
theorem ro_v (x:Value):ro own (.v x)=.v x:=rfl
theorem ro_sl (a:Option Addr) (len cap sz:Nat) (rd:Nat→Nat→SV):ro own (.sl a len cap sz rd)=.sl a len cap sz rd:=rfl
theorem ro_os (id:Nat) (a:Option Addr) (len cap:Nat):ro own (.os id a len cap)=roArg own (.os id a len cap):=rfl
theorem ro_el (a:Addr) (n:Nat) (rd:Nat→SV):ro own (.el a n rd)=.el a n rd:=rfl
theorem ro_op (id blk off:Nat):ro own (.op id blk off)=roArg own (.op id blk off):=rfl
theorem ro_fn (f:FuncId) (n:Nat) (rd:Nat→SV):ro own (.fn f n rd)=roArg own (.fn f n rd):=rfl
theorem rExtract_tup (n:Nat) (rd:Nat→SV) (ix:Nat):rExtract (some (.tup n rd)) ix=.cond (ix<n) (.val (rd ix)):=rfl
def WLk (P:Program) (F:Frm) (ds:List (Option Tmp)) (rest:List Oper) (dst:Option Tmp) (op:Op) (st:St) (mt:Option (Bool×List IntKind×IntKind)) (m s:Option SV) (c:Bool) (k:St→Prop):Prop:=match mt with
  | some mt=>WV P F ds rest dst st (rLook st.own (some mt) m s c) k
  | none=>WGood P F ds rest dst op st k
theorem wo_lookup (t:TypeId) (m x:Operand) (c:Bool):WO P F ds (⟨dst,.lookup t m x c,ty,pos,aft,none⟩ :: rest) ⟨n,env,own⟩ k=(dOk n dst∧WLk P F ds rest dst (.lookup t m x c) ⟨n,env,own⟩ (mapT P t) (ev env m) (ev env x) c k):=by
  cases h:mapT P t with
  | none=>simp only[WO,stepO,WLk,h];rfl
  | some q=>
    have e:rOp P ⟨n,env,own⟩ (.lookup t m x c)=rLook own (some q) (ev env m) (ev env x) c:=by show rLook own (mapT P t) (ev env m) (ev env x) c=_;rw[h]
    simp only[WO,stepO,WLk,h,e];rfl
theorem wlk_none {st:St} (op:Op) (m s:Option SV) (c:Bool):WLk P F ds rest dst op st none m s c k=WGood P F ds rest dst op st k:=rfl
def WLs (P:Program) (F:Frm) (ds:List (Option Tmp)) (rest:List Oper) (dst:Option Tmp) (st:St) (vk:IntKind) (x:Option Int) (c:Bool) (k:St→Prop):Prop:=WV P F ds rest dst st (.val (lookS vk x c)) k
def WLo (P:Program) (F:Frm) (ds:List (Option Tmp)) (rest:List Oper) (dst:Option Tmp) (st:St) (c sc:Bool) (ks:List IntKind) (vk:IntKind) (blk:Nat) (o:Option Own) (q:Option (List IntKind×List Int)) (k:St→Prop):Prop:=
  match o,q with
  | some (.mp blk' sc' ks' vk' f),some (ks2,l)=>(blk'=blk∧sc'=sc∧ks'=ks∧vk'=vk∧ks2=ks)∧WLs P F ds rest dst st vk (f l) c k
  | _,_=>False
theorem wlk_mp {st:St} (op:Op) (id blk:Nat) (s:SV) (sc c:Bool) (ks:List IntKind) (vk:IntKind):WLk P F ds rest dst op st (some (sc,ks,vk)) (some (.mp id blk)) (some s) c k=WLo P F ds rest dst st c sc ks vk blk st.own[id]? (keyS sc s) k:=by
  simp only[WLk,WLo,rLook];cases st.own[id]? with
  | none=>rfl
  | some o=>cases o<;>first|rfl|(cases keyS sc s<;>rfl)
theorem wlo_some {st:St} (blk blk':Nat) (sc sc' c:Bool) (ks ks' ks2:List IntKind) (vk vk':IntKind) (f:List Int→Option Int) (l:List Int):WLo P F ds rest dst st c sc ks vk blk (some (.mp blk' sc' ks' vk' f)) (some (ks2,l)) k=((blk'=blk∧sc'=sc∧ks'=ks∧vk'=vk∧ks2=ks)∧WLs P F ds rest dst st vk (f l) c k):=rfl
theorem wls_two {st:St} (vk:IntKind) (x:Option Int):WLs P F ds rest dst st vk x true k=((∀ v,x=some v→WO P F ds rest (st.put dst (QW [.i vk v,.tt])) k)∧(x=none→WO P F ds rest (st.put dst (QW [.i vk 0,.ff])) k)):=by
  cases x with
  | none=>exact propext ⟨fun h=>⟨fun v hv=>(by cases hv),fun _=>h⟩,fun h=>h.2 rfl⟩
  | some v=>exact propext ⟨fun h=>⟨fun v' hv=>(by cases hv;exact h),fun hv=>(by cases hv)⟩,fun h=>h.1 v rfl⟩
theorem wls_one {st:St} (vk:IntKind) (x:Option Int):WLs P F ds rest dst st vk x false k=((∀ v,x=some v→WO P F ds rest (st.put dst (.i vk v)) k)∧(x=none→WO P F ds rest (st.put dst (.i vk 0)) k)):=by
  cases x<;>simp [WLs,WV,VR.holds,lookS]
def WMp (P:Program) (F:Frm) (ds:List (Option Tmp)) (rest:List Oper) (dst:Option Tmp) (t:TypeId) (n:Nat) (env:List (Nat×SV)) (own:List Own) (mt:Option (Bool×List IntKind×IntKind)) (k:St→Prop):Prop:=
  match mt with
  | some (sc,ks,vk)=>∀ blk:Nat,WO P F ds rest (St.put ⟨n,env,own ++ [.mp blk sc ks vk fun _=>none]⟩ dst (.mp own.length blk)) k
  | none=>WGood P F ds rest dst (.makeMap t none) ⟨n,env,own⟩ k
theorem wo_makeMap (t:TypeId):WO P F ds (⟨dst,.makeMap t none,ty,pos,aft,none⟩ :: rest) ⟨n,env,own⟩ k=(dOk n dst∧WMp P F ds rest dst t n env own (mapT P t) k):=by
  cases h:mapT P t<;>simp only[WO,stepO,WMp,h,sMakeMap]<;>rfl
theorem wmkp_none (t:TypeId):WMp P F ds rest dst t n env own none k=WGood P F ds rest dst (.makeMap t none) ⟨n,env,own⟩ k:=rfl
theorem wmkp_some (t:TypeId) (sc:Bool) (ks:List IntKind) (vk:IntKind):WMp P F ds rest dst t n env own (some (sc,ks,vk)) k=∀ blk:Nat,WO P F ds rest (St.put ⟨n,env,own ++ [.mp blk sc ks vk fun _=>none]⟩ dst (.mp own.length blk)) k:=rfl
def WMuS (P:Program) (F:Frm) (ds:List (Option Tmp)) (rest:List Oper) (dst:Option Tmp) (n:Nat) (env:List (Nat×SV)) (own:List Own) (mt:Option (Bool×List IntKind×IntKind)) (m s v:Option SV) (k:St→Prop):Prop:=
  match m,s,v,mt with
  | some (.mp id blk),some s,some (.i vk2 y),some (sc,ks,vk)=>(match own[id]?,keyS sc s with
    | some (.mp blk' sc' ks' vk' f),some (ks2,l)=>(blk'=blk∧sc'=sc∧ks'=ks∧vk'=vk∧ks2=ks∧vk2=vk)∧WO P F ds rest (St.put ⟨n,env,own.set id (.mp blk' sc' ks' vk' (fPut f l y))⟩ dst (.v undef)) k
    | _,_=>False)
  | _,_,_,_=>False
def WMu (P:Program) (F:Frm) (ds:List (Option Tmp)) (rest:List Oper) (dst:Option Tmp) (op:Op) (n:Nat) (env:List (Nat×SV)) (own:List Own) (mt:Option (Bool×List IntKind×IntKind)) (m s v:Option SV) (k:St→Prop):Prop:=
  match mt with
  | some q=>WMuS P F ds rest dst n env own (some q) m s v k
  | none=>WGood P F ds rest dst op ⟨n,env,own⟩ k
theorem wo_mapUpdate (t:TypeId) (m x v:Operand):WO P F ds (⟨dst,.mapUpdate t m x v,ty,pos,aft,none⟩ :: rest) ⟨n,env,own⟩ k=(dOk n dst∧WMu P F ds rest dst (.mapUpdate t m x v) n env own (mapT P t) (ev env m) (ev env x) (ev env v) k):=by
  cases h:mapT P t with
  | some q=>
    have e:sMapUpd P ⟨n,env,own⟩ dst t m x v (fun st'=>WO P F ds rest st' k)=WMuS P F ds rest dst n env own (some q) (ev env m) (ev env x) (ev env v) k:=by
      show WMuS P F ds rest dst n env own (mapT P t) (ev env m) (ev env x) (ev env v) k=_;rw[h]
    simp only[WO,stepO,WMu,h,e];rfl
  | none=>simp only[WO,stepO,WMu,h];rfl
theorem wmu_none (op:Op) (m s v:Option SV):WMu P F ds rest dst op n env own none m s v k=WGood P F ds rest dst op ⟨n,env,own⟩ k:=rfl
theorem wo_mapEntry (t:TypeId) (m x:Operand):WO P F ds (⟨dst,.mapEntry t m x,ty,pos,aft,none⟩ :: rest) ⟨n,env,own⟩ k=(dOk n dst∧WGood P F ds rest dst (.mapEntry t m x) ⟨n,env,own⟩ k):=rfl
theorem wo_entryStore (t:TypeId) (m s x:Operand):WO P F ds (⟨dst,.entryStore t m s x,ty,pos,aft,none⟩ :: rest) ⟨n,env,own⟩ k=(dOk n dst∧WGood P F ds rest dst (.entryStore t m s x) ⟨n,env,own⟩ k):=rfl
theorem wo_range (t:TypeId) (x:Operand):WO P F ds (⟨dst,.range t x,ty,pos,aft,none⟩ :: rest) ⟨n,env,own⟩ k=(dOk n dst∧WGood P F ds rest dst (.range t x) ⟨n,env,own⟩ k):=rfl
theorem wo_next (x:Operand) (b:Bool):WO P F ds (⟨dst,.next x b,ty,pos,aft,none⟩ :: rest) ⟨n,env,own⟩ k=(dOk n dst∧WGood P F ds rest dst (.next x b) ⟨n,env,own⟩ k):=rfl
theorem wo_entry (x:Operand):WO P F ds (⟨dst,.entry x,ty,pos,aft,none⟩ :: rest) ⟨n,env,own⟩ k=(dOk n dst∧WGood P F ds rest dst (.entry x) ⟨n,env,own⟩ k):=rfl
def WMo (P:Program) (F:Frm) (ds:List (Option Tmp)) (rest:List Oper) (dst:Option Tmp) (n:Nat) (env:List (Nat×SV)) (own:List Own) (sc:Bool) (ks:List IntKind) (vk vk2:IntKind) (y:Int) (id blk:Nat) (o:Option Own) (q:Option (List IntKind×List Int)) (k:St→Prop):Prop:=
  match o,q with
  | some (.mp blk' sc' ks' vk' f),some (ks2,l)=>(blk'=blk∧sc'=sc∧ks'=ks∧vk'=vk∧ks2=ks∧vk2=vk)∧WO P F ds rest (St.put ⟨n,env,own.set id (.mp blk' sc' ks' vk' (fPut f l y))⟩ dst (.v undef)) k
  | _,_=>False
theorem wmu_mp (op:Op) (id blk:Nat) (s:SV) (vk2:IntKind) (y:Int) (sc:Bool) (ks:List IntKind) (vk:IntKind):WMu P F ds rest dst op n env own (some (sc,ks,vk)) (some (.mp id blk)) (some s) (some (.i vk2 y)) k=WMo P F ds rest dst n env own sc ks vk vk2 y id blk own[id]? (keyS sc s) k:=rfl
theorem wmo_some (sc sc':Bool) (ks ks' ks2:List IntKind) (vk vk' vk2:IntKind) (y:Int) (id blk blk':Nat) (f:List Int→Option Int) (l:List Int):WMo P F ds rest dst n env own sc ks vk vk2 y id blk (some (.mp blk' sc' ks' vk' f)) (some (ks2,l)) k=((blk'=blk∧sc'=sc∧ks'=ks∧vk'=vk∧ks2=ks∧vk2=vk)∧WO P F ds rest (St.put ⟨n,env,own.set id (.mp blk' sc' ks' vk' (fPut f l y))⟩ dst (.v undef)) k):=rfl
theorem rExtract_tupL (l:List SV) (ix:Nat):rExtract (some (QW l)) ix=.cond (ix<l.length) (.val (l.getD ix default)):=rfl
theorem one_i (k:IntKind) (n:Int):oneS (.i k n)=true:=rfl
theorem one_b (x:Bool):oneS (.b x)=true:=rfl
theorem one_tt:oneS .tt=true:=rfl
theorem one_ff:oneS .ff=true:=rfl
theorem one_sl (a:Option Addr) (len cap sz:Nat) (rd:Nat→Nat→SV):oneS (.sl a len cap sz rd)=true:=rfl
theorem one_os (id:Nat) (a:Option Addr) (len cap:Nat):oneS (.os id a len cap)=true:=rfl
theorem one_op (id blk off:Nat):oneS (.op id blk off)=true:=rfl
theorem one_el (a:Addr) (n:Nat) (rd:Nat→SV):oneS (.el a n rd)=true:=rfl
theorem one_fn (f:FuncId) (n:Nat) (rd:Nat→SV):oneS (.fn f n rd)=true:=rfl
theorem one_str (s:ByteArray):oneS (.v (.string s))=true:=rfl
theorem one_ptr (a:Option Addr):oneS (.v (.pointer a))=true:=rfl
theorem one_map (r:Option Nat):oneS (.v (.map r))=true:=rfl
theorem one_nilFunc:oneS (.v .nilFunc)=true:=rfl
theorem one_nilIface:oneS (.v .nilIface)=true:=rfl
theorem one_slice (a:Option Addr) (l c:Nat):oneS (.v (.slice a l c))=true:=rfl
theorem one_agg (n:Nat) (rd:Nat→SV):oneS (.agg n rd)=false:=rfl
theorem w64 {x:Int} (h:-9223372036854775808≤x∧x≤9223372036854775807):IntKind.i64.wrap x=x:=IntWalk.i64_in _ h
/-! ### The same in a region that draws its order -/
def QV (P:Program) (ds:List (Option Tmp)) (rest:List Oper) (dst:Option Tmp) (st:St) (r:VR) (k:St→Prop):Prop:=r.holds fun s=>WQ P ds rest (st.put dst s) k
theorem qv_val {st:St} (s:SV):QV P ds rest dst st (.val s) k=WQ P ds rest (st.put dst s) k:=rfl
theorem qv_cond {st:St} (p:Prop) (r:VR):QV P ds rest dst st (.cond p r) k=(p∧QV P ds rest dst st r k):=rfl
theorem qv_fail {st:St}:QV P ds rest dst st .fail k=False:=rfl
theorem wq_nil {st:St}:WQ P ds [] st k=k st:=rfl
theorem wq_move (x:Operand):WQ P ds (⟨dst,.move x,ty,pos,aft,none⟩ :: rest) ⟨n,env,own⟩ k=(dOk n dst∧QV P ds rest dst ⟨n,env,own⟩ (rOpt (ev env x)) k):=rfl
theorem wq_assign (x:Operand):WQ P ds (⟨dst,.assign x,ty,pos,aft,none⟩ :: rest) ⟨n,env,own⟩ k=(dOk n dst∧QV P ds rest dst ⟨n,env,own⟩ (rOpt (ev env x)) k):=rfl
theorem wq_pick (c x y:Operand):WQ P ds (⟨dst,.pick c x y,ty,pos,aft,none⟩ :: rest) ⟨n,env,own⟩ k=(dOk n dst∧QV P ds rest dst ⟨n,env,own⟩ (rPick (ev env c) (ev env x) (ev env y)) k):=rfl
theorem wq_bin (op:BinOp) (t t':TypeId) (x y:Operand):WQ P ds (⟨dst,.binOp op t x y t',ty,pos,aft,none⟩ :: rest) ⟨n,env,own⟩ k=(dOk n dst∧QV P ds rest dst ⟨n,env,own⟩ (rBinN P t op (ev env x) (ev env y) (nilC y)) k):=rfl
theorem wq_un (op:UnOp) (t:TypeId) (x:Operand):WQ P ds (⟨dst,.unOp op t x,ty,pos,aft,none⟩ :: rest) ⟨n,env,own⟩ k=(dOk n dst∧QV P ds rest dst ⟨n,env,own⟩ (rUn op (ev env x)) k):=rfl
theorem wq_conv (s d:TypeId) (x:Operand):WQ P ds (⟨dst,.convert s d x,ty,pos,aft,none⟩ :: rest) ⟨n,env,own⟩ k=(dOk n dst∧QV P ds rest dst ⟨n,env,own⟩ (rConv P own (tk P s) (tk P d) (ev env x)) k):=rfl
theorem wq_extract (x:Operand) (ix:Nat):WQ P ds (⟨dst,.extract x ix,ty,pos,aft,none⟩ :: rest) ⟨n,env,own⟩ k=(dOk n dst∧QV P ds rest dst ⟨n,env,own⟩ (rExtract (ev env x) ix) k):=rfl
theorem wq_fieldAddr (t:TypeId) (x:Operand) (f:Nat):WQ P ds (⟨dst,.fieldAddr t x f,ty,pos,aft,none⟩ :: rest) ⟨n,env,own⟩ k=(dOk n dst∧QV P ds rest dst ⟨n,env,own⟩ (Zf P (Ql P t f) (ev env x)) k):=rfl
theorem wq_nilCheck (x:Operand):WQ P ds (⟨dst,.nilCheck x,ty,pos,aft,none⟩ :: rest) ⟨n,env,own⟩ k=(dOk n dst∧QV P ds rest dst ⟨n,env,own⟩ (Zo (ev env x)) k):=rfl
theorem wq_index (t:TypeId) (x i:Operand):WQ P ds (⟨dst,.index t x i,ty,pos,aft,none⟩ :: rest) ⟨n,env,own⟩ k=(dOk n dst∧QV P ds rest dst ⟨n,env,own⟩ (rIndex P (tk P t) (ev env x) (ev env i)) k):=rfl
theorem wq_field (t:TypeId) (x:Operand) (f:Nat):WQ P ds (⟨dst,.field t x f,ty,pos,aft,none⟩ :: rest) ⟨n,env,own⟩ k=(dOk n dst∧QV P ds rest dst ⟨n,env,own⟩ (rField P (Ql P t f) (ev env x)) k):=rfl
theorem wq_indexAddr (t:TypeId) (x i:Operand):WQ P ds (⟨dst,.indexAddr t x i,ty,pos,aft,none⟩ :: rest) ⟨n,env,own⟩ k=(dOk n dst∧QV P ds rest dst ⟨n,env,own⟩ (Q4 P own (tk P t) (ev env x) (ev env i)) k):=rfl
theorem wq_load (t:TypeId) (x:Operand):WQ P ds (⟨dst,.load t x,ty,pos,aft,none⟩ :: rest) ⟨n,env,own⟩ k=(dOk n dst∧QV P ds rest dst ⟨n,env,own⟩ (rLoad P own t (ev env x)) k):=rfl
theorem wq_slice (t:TypeId) (x:Operand) (lo hi:Option Operand):WQ P ds (⟨dst,.slice t x lo hi none,ty,pos,aft,none⟩ :: rest) ⟨n,env,own⟩ k=(dOk n dst∧QV P ds rest dst ⟨n,env,own⟩ (rSlice P own env (tk P t) (ev env x) lo hi) k):=rfl
theorem wq_build (t:TypeId) (ps:List (Nat×Operand)):WQ P ds (⟨dst,.build t ps.toArray,ty,pos,aft,none⟩ :: rest) ⟨n,env,own⟩ k=(dOk n dst∧QV P ds rest dst ⟨n,env,own⟩ (rBuild P t (fillS (placesOf P t) (tz P t) (ps.map fun p=>(p.1,ev env p.2)))) k):=by
  simp only[WQ,stepQ,rOp,QV];rfl
theorem wq_len (x:Operand) (t:TypeId):WQ P ds (⟨dst,.call { callee:=.builtin .len,args:=#[x],argTypes:=#[t] },ty,pos,aft,none⟩ :: rest) ⟨n,env,own⟩ k=(dOk n dst∧QV P ds rest dst ⟨n,env,own⟩ (rLen (tk P t) (ev env x)) k):=rfl
theorem wq_max (x y:Operand) (ts:Array TypeId):WQ P ds (⟨dst,.call { callee:=.builtin .max,args:=#[x,y],argTypes:=ts },ty,pos,aft,none⟩ :: rest) ⟨n,env,own⟩ k=(dOk n dst∧QV P ds rest dst ⟨n,env,own⟩ (rMax (ev env x) (ev env y)) k):=rfl
theorem wq_min (x y:Operand) (ts:Array TypeId):WQ P ds (⟨dst,.call { callee:=.builtin .min,args:=#[x,y],argTypes:=ts },ty,pos,aft,none⟩ :: rest) ⟨n,env,own⟩ k=(dOk n dst∧QV P ds rest dst ⟨n,env,own⟩ (rMin (ev env x) (ev env y)) k):=rfl
def QCall (P:Program) (ds:List (Option Tmp)) (rest:List Oper) (dst:Option Tmp) (st:St) (f:FuncId) (l:Option (List SV)) (k:St→Prop):Prop:=
  match l with
  | some l=>CallQ P st f l fun s=>WQ P ds rest (st.put dst s) k
  | none=>False
theorem wq_call (f:FuncId) (args:List Operand) (ts:Array TypeId):WQ P ds (⟨dst,.call { callee:=.value (.func f),args:=args.toArray,argTypes:=ts },ty,pos,aft,none⟩ :: rest) ⟨n,env,own⟩ k=(dOk n dst∧QCall P ds rest dst ⟨n,env,own⟩ f (evs env args) k):=by
  simp only[WQ,stepQ];rfl
def QCallV (P:Program) (ds:List (Option Tmp)) (rest:List Oper) (dst:Option Tmp) (st:St) (g:Option SV) (l:Option (List SV)) (k:St→Prop):Prop:=
  match g,l with
  | some (.fn f n rd),some l=>CallQ P st f (l ++ (List.range n).map rd) fun s=>WQ P ds rest (st.put dst s) k
  | _,_=>False
theorem wq_callv (t:Nat) (args:List Operand) (ts:Array TypeId):WQ P ds (⟨dst,.call { callee:=.value (.tmp t),args:=args.toArray,argTypes:=ts },ty,pos,aft,none⟩ :: rest) ⟨n,env,own⟩ k=(dOk n dst∧QCallV P ds rest dst ⟨n,env,own⟩ (look env t) (evs env args) k):=by
  simp only[WQ,stepQ];rfl
theorem qcallv_fn {f:FuncId} {m:Nat} {rd:Nat→SV} {l:List SV} {st:St}:QCallV P ds rest dst st (some (.fn f m rd)) (some l) k=QCall P ds rest dst st f (some (l ++ (List.range m).map rd)) k:=rfl
theorem qcall {f:FuncId} {args args':List SV} {st:St} {r:SV} (h:Contract Frm.nil P f args' (fun s=>s=r)) (ha:args.map (roArg st.own)=args') (hp:∀ R w,r.ok R w) (hk:WQ P ds rest (st.put dst r) k):QCall P ds rest dst st f (some args) k:=
  ⟨r,by rw[ha];exact h,hp,hk⟩
def QG (P:Program) (ds:List (Option Tmp)) (dst:Option Tmp) (op:Op) (rest:List Oper) (n:Nat) (env:List (Nat×SV)) (own:List Own) (want:Bool) (t:Option Tmp) (k:St→Prop):Prop:=
  match t with
  | none=>False
  | some t=>match look env t with
    | some .tt=>if want=true then WQ P ds (⟨dst,op,0, "",#[],none⟩ :: rest) ⟨n,env,own⟩ k else dOk n dst∧WQ P ds rest (St.put ⟨n,env,own⟩ dst (.v undef)) k
    | some .ff=>if want=false then WQ P ds (⟨dst,op,0, "",#[],none⟩ :: rest) ⟨n,env,own⟩ k else dOk n dst∧WQ P ds rest (St.put ⟨n,env,own⟩ dst (.v undef)) k
    | some (.v (.tuple _))=>dOk n dst∧WQ P ds rest (St.put ⟨n,env,own⟩ dst (.v undef)) k
    | some (.b x)=>t<n∧(x=true→if want=true then WQ P ds (⟨dst,op,0, "",#[],none⟩ :: rest) ⟨n,(t,.tt) :: env,own⟩ k else dOk n dst∧WQ P ds rest (St.put ⟨n,(t,.tt) :: env,own⟩ dst (.v undef)) k) ∧
        (x=false→if want=false then WQ P ds (⟨dst,op,0, "",#[],none⟩ :: rest) ⟨n,(t,.ff) :: env,own⟩ k else dOk n dst∧WQ P ds rest (St.put ⟨n,(t,.ff) :: env,own⟩ dst (.v undef)) k)
    | _=>False
theorem wq_guard (op:Op) (j:Nat) (want:Bool):WQ P ds (⟨dst,op,ty,pos,aft,some (j,want)⟩ :: rest) ⟨n,env,own⟩ k=QG P ds dst op rest n env own want ((ds[j]?).bind id) k:=by
  simp only[WQ,QG];cases (ds[j]?).bind id with
  | none=>rfl
  | some t=>
    simp only[];cases look env t with
    | none=>rfl
    | some s=>cases s<;>first|rfl|(rename_i x;cases x<;>rfl)
def QG2 (P:Program) (ds:List (Option Tmp)) (dst:Option Tmp) (op:Op) (rest:List Oper) (n:Nat) (env:List (Nat×SV)) (own:List Own) (want:Bool) (t:Tmp) (g:Option SV) (k:St→Prop):Prop:=
  match g with
    | some .tt=>if want=true then WQ P ds (⟨dst,op,0, "",#[],none⟩ :: rest) ⟨n,env,own⟩ k else dOk n dst∧WQ P ds rest (St.put ⟨n,env,own⟩ dst (.v undef)) k
    | some .ff=>if want=false then WQ P ds (⟨dst,op,0, "",#[],none⟩ :: rest) ⟨n,env,own⟩ k else dOk n dst∧WQ P ds rest (St.put ⟨n,env,own⟩ dst (.v undef)) k
    | some (.v (.tuple _))=>dOk n dst∧WQ P ds rest (St.put ⟨n,env,own⟩ dst (.v undef)) k
    | some (.b x)=>t<n∧(x=true→if want=true then WQ P ds (⟨dst,op,0, "",#[],none⟩ :: rest) ⟨n,(t,.tt) :: env,own⟩ k else dOk n dst∧WQ P ds rest (St.put ⟨n,(t,.tt) :: env,own⟩ dst (.v undef)) k) ∧
        (x=false→if want=false then WQ P ds (⟨dst,op,0, "",#[],none⟩ :: rest) ⟨n,(t,.ff) :: env,own⟩ k else dOk n dst∧WQ P ds rest (St.put ⟨n,(t,.ff) :: env,own⟩ dst (.v undef)) k)
    | _=>False
theorem qg_some (op:Op) (want:Bool) (t:Tmp):QG P ds dst op rest n env own want (some t) k=QG2 P ds dst op rest n env own want t (look env t) k:=by
  simp only[QG,QG2]
theorem qg_tt_true (op:Op) (t:Tmp):QG2 P ds dst op rest n env own true t (some .tt) k=WQ P ds (⟨dst,op,0, "",#[],none⟩ :: rest) ⟨n,env,own⟩ k:=rfl
theorem qg_tt_false (op:Op) (t:Tmp):QG2 P ds dst op rest n env own false t (some .tt) k=(dOk n dst∧WQ P ds rest (St.put ⟨n,env,own⟩ dst (.v undef)) k):=rfl
theorem qg_ff_true (op:Op) (t:Tmp):QG2 P ds dst op rest n env own true t (some .ff) k=(dOk n dst∧WQ P ds rest (St.put ⟨n,env,own⟩ dst (.v undef)) k):=rfl
theorem qg_ff_false (op:Op) (t:Tmp):QG2 P ds dst op rest n env own false t (some .ff) k=WQ P ds (⟨dst,op,0, "",#[],none⟩ :: rest) ⟨n,env,own⟩ k:=rfl
theorem qg_undef (op:Op) (want:Bool) (t:Tmp):QG2 P ds dst op rest n env own want t (some (.v undef)) k=(dOk n dst∧WQ P ds rest (St.put ⟨n,env,own⟩ dst (.v undef)) k):=rfl
theorem qg_b (op:Op) (want:Bool) (t:Tmp) (x:Bool):QG2 P ds dst op rest n env own want t (some (.b x)) k=(t<n∧(x=true→QG2 P ds dst op rest n ((t,.tt) :: env) own want t (some .tt) k)∧(x=false→QG2 P ds dst op rest n ((t,.ff) :: env) own want t (some .ff) k)):=rfl
end
end Eng
end Go.Proofs.YtabgkfjfmjdfiaaGreatDoor

namespace Go.Proofs.YtabgkfjfmjdfiaaGreatDoor
namespace Eng
structure ContractM (F:Frm) (P:Program) (f:FuncId) (args:List SV) (o0:Own) (post:SV→Own→Prop):Prop where
  enters:∀ vs w,(callFunc f vs).run P w=.ok (.enter f vs) w
  calls:∀ (R:Nat→Prop) (w:World) (ob:Nat),F.Inv w→(∀ b,F.L b→b<ob)→ob≤w.heap.size→o0.ok R ob w→(∀ s∈args,s.ok R w)→(∀ b,R b→b<w.heap.size∧¬ F.M b) →
    Calls P f (args.map SV.den).toArray w fun e w'=>∃ (r:SV) (o1:Own) (R':Nat→Prop),e=.returned r.den∧post r o1∧(∀ b,R b→R' b)∧(∀ b,R' b→R b∨(w.heap.size≤b∧b<w'.heap.size))∧r.ok R' w' ∧
      (∀ b,o1.blk=some b→o0.blk=some b)∧o1.ok R' ob w'∧Evo (fun b=>F.M b∨o0.blk=some b) w w'∧F.Inv w'
theorem ContractM.mono {F:Frm} {P:Program} {f:FuncId} {args:List SV} {o0:Own} {post post':SV→Own→Prop} (h:ContractM F P f args o0 post) (hp:∀ r o,post r o→post' r o):ContractM F P f args o0 post':=
  ⟨h.enters,fun R w ob h1 h2 h3 h4 h5 h6=>(h.calls R w ob h1 h2 h3 h4 h5 h6).mono fun e w' ⟨r,o1,R',a,b,c⟩=>⟨r,o1,R',a,hp _ _ b,c⟩⟩
def okM:SV→Bool
  | .os 0 _ _ _=>true
  | s=>plainS s
def roB:SV→SV
  | .tt=>.b true
  | .ff=>.b false
  | s=>s
def resM:List SV→SV
  | [s]=>roB s
  | l=>QW (l.map roB)
def retMK (st:St) (post:SV→Own→Prop) (l:List SV):Prop:=l.all okM=true∧∃ o1 tl,st.own=o1 :: tl∧post (resM l) o1
def retM (P:Program) (rs:List ResultVar) (post:SV→Own→Prop):Exit→St→Prop
  | .normal,st=>resHolds P st rs (retMK st post)
  | .ret,st=>resHolds P st rs (retMK st post)
  | _,_=>False
theorem Own.rebase {R:Nat→Prop} {B B':Nat} {w:World} {o:Own} (h:o.ok R B w) (hB:∀ b,o.blk=some b→B'≤b):o.ok R B' w:=by
  cases o with
  | gone=>trivial
  | box blk ty cs=>exact⟨hB _ rfl,h.2⟩
  | row a e len cap sz rd=>
    obtain⟨h1,h2,h3⟩:=h;refine⟨⟨h1.1,?_⟩,h2,h3⟩;rcases h1.2 with hn|⟨g,cap',cur,hv,hbg,rest⟩
    · exact .inl hn
    · refine .inr ⟨g,cap',cur,hv,?_,rest⟩
      simp only[Value.slice.injEq] at hv;obtain⟨rfl,_,_⟩:=hv;exact hB g rfl
  | frz a len cap sz rd=>exact h
  | res blk p=>exact⟨hB _ rfl,h.2⟩
  | mp blk sc ks vk f=>exact⟨hB _ rfl,h.2⟩
  | mq blk sc ks n key val=>exact⟨hB _ rfl,h.2⟩
theorem getD_map_lt {l:List SV} {g:SV→SV} {j:Nat} (h:j<l.length):(l.map g).getD j default=g (l.getD j default):=by simp [List.getD,List.getElem?_eq_getElem h]
theorem roB_den (s:SV):(roB s).den=s.den:=by cases s<;>rfl
theorem okM_ok {s:SV} (h:okM s=true) (R:Nat→Prop) (w:World):(roB s).ok R w:=by
  cases s<;>first|trivial|(simp [okM,plainS] at h)
theorem contractM_of {P:Program} {F:Frm} {f:FuncId} {fn:Func} {c:Code} {args:List SV} {o0:Own} {post:SV→Own→Prop} (hf:P.funcs[f]? = some fn) (hb:fn.body=some c) (hname:(fn.name == "runtime.NumGoroutine")=false)
    (hkeep:∀ r o1,post r o1→o1.blk=o0.blk)
    (h:Sat P F c ⟨fn.ntmps,Qm 0 args,[o0]⟩ (retM P fn.results.toList post)):ContractM F P f args o0 post:=by
  refine⟨fun vs w=>?_,fun R w ob hinv hobM hobw ho0 hargs hR=>?_⟩
  · have hn:¬ fn.name = "runtime.NumGoroutine" := by simpa using hname
    simp [callFunc,hf,hn,hb]
  · refine calls_of_wp hf hb ?_
    have hown:∀ (i:Nat) (o:Own),[o0][i]? = some o→o=o0:=fun i o ho=>by
      cases i with
      | zero=>simpa using ho.symm
      | succ i=>simp at ho
    have hrel:RelR F R ⟨w,fun b=>o0.blk=some b⟩ ob R ⟨fn.ntmps,Qm 0 args,[o0]⟩ { tmps:=(args.map SV.den).toArray ++ Array.replicate (fn.ntmps - (args.map SV.den).toArray.size) undef,defers:=[] } w:=by
      refine⟨rfl,?_,?_,fun i o ho=>by rw[hown i o ho];exact ho0,fun i j o o' hij ho ho'=>?_,Evo.refl _ _,hinv,hobM,fun i o ho b hb=>by rw[hown i o ho] at hb;exact .inr hb,hobw,fun b hb=>⟨(hR b hb).1,(hR b hb).2,.inl hb⟩,fun _ h=>h⟩
      · intro t s ht
        obtain⟨j,rfl,hj⟩:=look_argEnv args 0 t s ht;have hlt:=(List.getElem?_eq_some_iff.1 hj).1;refine⟨?_,hargs s (List.mem_of_getElem? hj)⟩;rw[Nat.zero_add,Array.getElem?_append_left (by simpa using hlt)];simp [hj]
      · simp;omega
      · cases i with
        | zero=>cases j with
          | zero=>exact absurd rfl hij
          | succ j=>simp at ho'
        | succ i=>simp at ho
    refine wp_mono (h R ⟨w,fun b=>o0.blk=some b⟩ _ w ⟨_,R,hrel⟩) ?_;have fin:∀ a' w' st',resHolds P st' fn.results.toList (retMK st' post)→Rel F R ⟨w,fun b=>o0.blk=some b⟩ st' a' w'→a'.defers=[]∧∃ v,(results fn a'.tmps).run P w'=.ok v w' ∧
        (fun e w'=>∃ (r:SV) (o1:Own) (R':Nat→Prop),e=Ending.returned r.den∧post r o1∧(∀ b,R b→R' b)∧(∀ b,R' b→R b∨(w.heap.size≤b∧b<w'.heap.size))∧r.ok R' w'∧(∀ b,o1.blk=some b→o0.blk=some b)∧o1.ok R' ob w'∧Evo (fun b=>F.M b∨o0.blk=some b) w w'∧F.Inv w') (.returned v) w':=by
      rintro a' w' st' hres ⟨ob',R',hr'⟩;obtain⟨l,⟨hall,o1,tl,hown',hpost⟩,hlok,hrun⟩:=resHolds_ok hr' hres
      have hmA:∀ (g:ResultVar→Sem Value),(fn.results.toList.mapM g).run P w'=.ok (l.map SV.den) w'→(fn.results.mapM g).run P w'=.ok (l.map SV.den).toArray w':=by
        intro g hg;rw[Array.mapM_eq_mapM_toList];simp only[Sem.run_map,hg,Result.andThen_ok]
      have h01:st'.own[0]? = some o1:=by rw[hown'];rfl
      have hbk:=hkeep _ _ hpost;have hnR:∀ b,o0.blk=some b→¬ R' b:=fun b hb=>(Qw (hr'.own 0 o1 h01) (hbk.trans hb)).2.2;refine⟨hr'.defers,(resM l).den,?_,resM l,o1,R',rfl,hpost,hr'.r0,fun b hb=>?_,?_,fun b hb=>by rw[← hbk];exact hb,Own.rebase (hr'.own 0 o1 h01) (fun b hb=>(Qw ho0 (hbk.symm.trans hb)).1),hr'.evo,hr'.inv⟩
      · unfold results
        rw[Sem.run_bind];show ((fn.results.mapM (resRun a'.tmps)).run P w').andThen _=_;rw[hmA _ hrun];simp only[Result.andThen_ok,Sem.run_pure,Result.ok.injEq,and_true]
        match l with
        | [s]=>simp [resM,roB_den]
        | []=>simp [resM,QW,SV.den]
        | s :: t :: rest=>
          simp only[resM,QW,SV.den,List.map_cons,List.size_toArray,List.length_cons,List.length_map];rw[dif_neg (by omega)]
          congr 1
          apply Array.ext';apply List.ext_getElem?;intro j;simp only[List.getElem?_map];by_cases hj:j<rest.length+1+1
          · rw[List.getElem?_range hj]
            have hj':j<(s :: t :: rest).length:=by simpa using hj
            have e1:(s.den :: t.den :: rest.map SV.den)=(s :: t :: rest).map SV.den:=rfl;have e2:(roB s :: roB t :: rest.map roB)=(s :: t :: rest).map roB:=rfl;rw[e1,e2,List.getElem?_map,getD_get hj' (d:=default),Option.map_some,Option.map_some]
            congr 1
            show ((s :: t :: rest).getD j default).den=(((s :: t :: rest).map roB).getD j default).den;rw[getD_map_lt hj',roB_den]
          · rw[List.getElem?_eq_none (by simp;omega),List.getElem?_eq_none (by simp;omega)];rfl
      · rcases (hr'.rr b hb).2.2 with h|h|h
        · exact .inl h
        · exact .inr ⟨h,(hr'.rr b hb).1⟩
        · exact absurd hb (hnR b h)
      · match l,hall with
        | [s],hall=>exact okM_ok (by simpa using hall) _ _
        | [],_=>intro j hj;simp at hj
        | s :: t :: rest,hall=>
          intro j hj;have hj':j<(s :: t :: rest).length:=by simpa using hj
          show (((s :: t :: rest).map roB).getD j default).ok R' w';rw[getD_map_lt hj'];exact okM_ok (List.all_eq_true.1 hall _ (Q6 hj')) _ _
    rintro e a' w' ⟨st',hk,hr⟩;cases e with
    | normal=>exact fin a' w' st' hk hr
    | ret=>exact fin a' w' st' hk hr
    | _=>exact hk.elim
def argM (id:Nat):SV→SV
  | .os i a len cap=>if i=id then .os 0 a len cap else .os i a len cap
  | .op i blk off=>if i=id then .op 0 blk off else .op i blk off
  | .tt=>.b true
  | .ff=>.b false
  | s=>s
theorem argM_den (id:Nat) (s:SV):(argM id s).den=s.den:=by
  cases s<;>first|rfl|(simp only[argM];split<;>rfl)
theorem argM_ok {id:Nat} {s:SV} {R:Nat→Prop} {w:World} (h:s.ok R w):(argM id s).ok R w:=by
  cases s<;>first|exact h|trivial|(simp only[argM];split<;>trivial)
def renM (id:Nat):SV→SV
  | .os 0 a len cap=>.os id a len cap
  | s=>s
theorem renM_tupL (id:Nat) (l:List SV):renM id (QW l)=QW l:=rfl
theorem renM_i (id:Nat) (k:IntKind) (n:Int):renM id (.i k n)=.i k n:=rfl
theorem renM_b (id:Nat) (x:Bool):renM id (.b x)=.b x:=rfl
theorem renM_os (id:Nat) (a:Option Addr) (len cap:Nat):renM id (.os 0 a len cap)=.os id a len cap:=rfl
theorem resM_nil:resM []=QW []:=rfl
theorem resM_one (s:SV):resM [s]=roB s:=rfl
theorem resM_two (s t:SV):resM [s,t]=QW [roB s,roB t]:=rfl
theorem roB_i (k:IntKind) (n:Int):roB (.i k n)=.i k n:=rfl
theorem roB_b (x:Bool):roB (.b x)=.b x:=rfl
theorem roB_tt:roB .tt=.b true:=rfl
theorem roB_ff:roB .ff=.b false:=rfl
theorem roB_os (id:Nat) (a:Option Addr) (len cap:Nat):roB (.os id a len cap)=.os id a len cap:=rfl
theorem renM_den (id:Nat) (s:SV):(renM id s).den=s.den:=by unfold renM;split<;>rfl
theorem renM_ok {id:Nat} {s:SV} {R:Nat→Prop} {w:World} (h:s.ok R w):(renM id s).ok R w:=by unfold renM;split<;>first|trivial|exact h
section
variable {P:Program} {F:Frm} {st:St} {k:St→Prop} {dst:Option Tmp} {ds:List (Option Tmp)} {rest:List Oper}
theorem callK_mut {f:FuncId} {args:List SV} {post:SV→Own→Prop} (id:Nat) {o0:Own} (hid:st.own[id]? = some o0) (h:ContractM F P f (args.map (argM id)) o0 post)
    (hk:∀ r o1,post r o1→k (St.put { st with own:=st.own.set id o1 } dst (renM id r))):CallK P F f args st dst k:=by
  intro R0 w0 ob R a w hr hargs;refine⟨h.enters,?_⟩
  have hden:(args.map (argM id)).map SV.den=args.map SV.den:=by
    rw[List.map_map];exact List.map_congr_left fun s _=>argM_den id s
  have hidl:id<st.own.length:=(List.getElem?_eq_some_iff.1 hid).1
  have hc:=h.calls R w ob hr.inv hr.obM hr.obw (hr.own id o0 hid) (fun s' hs'=>by
    obtain⟨s,hs,rfl⟩:=List.mem_map.1 hs'
    exact argM_ok (hargs s hs)) (fun b hb=>⟨(hr.rr b hb).1,(hr.rr b hb).2.1⟩)
  rw[hden] at hc;refine hc.mono ?_;rintro e w' ⟨r,o1,R',rfl,hpost,hRR,hR',hrok,hblk,ho1,hevo,hinv⟩;refine⟨renM id r,{ st with own:=st.own.set id o1 },R',by rw[renM_den],hk r o1 hpost,renM_ok hrok,?_,rfl⟩
  have hRb:∀ b,R b→w'.heap[b]? = w.heap[b]? := fun b hb=>hevo.block b (hr.rr b hb).1 (fun hm=>by
    rcases hm with hm|hm
    · exact (hr.rr b hb).2.1 hm
    · exact (Qw (hr.own id o0 hid) hm).2.2 hb)
  have hother:∀ (i:Nat) (o:Own),id≠i→st.own[i]? = some o→∀ b,o.blk=some b→w'.heap[b]? = w.heap[b]? := fun i o hne ho b hb=>by
    obtain⟨h1,h2,_⟩:=Qw (hr.own i o ho) hb
    exact hevo.block b h2 (fun hm=>by
      rcases hm with hm|hm
      · have:=hr.ltM hm;omega
      · exact hr.dist id i o0 o hne hid ho b hm hb)
  refine⟨hr.defers,fun t s ht=>⟨(hr.env t s ht).1,Qx hRR hRb s (hr.env t s ht).2⟩,hr.size,?_,?_,?_,hinv,hr.obM,?_,Nat.le_trans hr.obw hevo.size,?_,fun b hb=>hRR b (hr.r0 b hb)⟩
  · intro i x hx
    rw[List.getElem?_set] at hx;split at hx
    · rename_i e
      subst e;simp only[hidl,if_true,Option.some.injEq] at hx;subst hx;exact ho1
    · rename_i hne
      refine Q2 (hr.own i x hx) hRR (fun b hb hb'=>?_) hRb (hother i x hne hx);rcases hR' b hb' with h9|h9
      · exact h9
      · have:=(Qw (hr.own i x hx) hb).2.1;omega
  · intro i j x y hij hx hy b hb1 hb2
    rw[List.getElem?_set] at hx hy;split at hx<;>split at hy
    · omega
    · rename_i e hne
      subst e;simp only[hidl,if_true,Option.some.injEq] at hx;subst hx;exact hr.dist id j o0 y hij hid hy b (hblk b hb1) hb2
    · rename_i hne e
      subst e;simp only[hidl,if_true,Option.some.injEq] at hy;subst hy;exact hr.dist i id x o0 hij hx hid b hb1 (hblk b hb2)
    · exact hr.dist i j x y hij hx hy b hb1 hb2
  · exact⟨hevo.os.trans hr.evo.os,hevo.tape.trans hr.evo.tape,hevo.output.trans hr.evo.output,Nat.le_trans hr.evo.size hevo.size,fun b hb hm=>(hevo.block b (Nat.lt_of_lt_of_le hb hr.evo.size) (fun h9=>by
      rcases h9 with h9|h9
      · exact hm (.inl h9)
      · rcases hr.gb id o0 hid b h9 with h8|h8
        · omega
        · exact hm (.inr h8))).trans (hr.evo.block b hb hm)⟩
  · exact gb_set (m:=w0.w.heap.size) (Nat.le_refl _) hr.gb hid fun b hb=>.inl (hblk b hb)
  · intro b hb
    rcases hR' b hb with h9|⟨h9,h10⟩
    · obtain⟨g1,g2,g3⟩:=hr.rr b h9
      exact⟨Nat.lt_of_lt_of_le g1 hevo.size,g2,g3⟩
    · have:=hr.obw
      have:=hr.evo.size;exact⟨h10,fun hm=>by have:=hr.ltM hm;omega,.inr (.inl (by omega))⟩
theorem wcall_mut {F:Frm} {n:Nat} {env:List (Nat×SV)} {own:List Own} {f:FuncId} {args args':List SV} {post:SV→Own→Prop} (id:Nat) {o0:Own} (h:ContractM F P f args' o0 post) (hid:own[id]? = some o0) (ha:args.map (argM id)=args')
    (hk:∀ r o1,post r o1→WO P F ds rest (St.put ⟨n,env,own.set id o1⟩ dst (renM id r)) k):WCall P F ds rest dst ⟨n,env,own⟩ f (some args) k:=by
  unfold WCall;exact .inl <| callK_mut (st:=⟨n,env,own⟩) (k:=fun st'=>WO P F ds rest st' k) id hid (by rw[ha];exact h) hk
end
end Eng
end Go.Proofs.YtabgkfjfmjdfiaaGreatDoor

namespace Go.Proofs.YtabgkfjfmjdfiaaGreatDoor
namespace Eng
def loadOp:Op→Bool
  | .load _ _=>true
  | .convert _ d _=>d != byT
  | _=>false
def stillOp:Op→Bool
  | .load _ _=>true
  | .binOp .shl _ _ _ _=>true
  | .binOp .shr _ _ _ _=>true
  | .binOp .xor _ _ _ _=>true
  | _=>false
def loadsOnly (md:Region.Mode) (ops:Array Oper) (listed:Array Bool) (k:Nat):Bool:=
  (List.range ops.size).all fun j=>j == k || listed.getD j true || match ops[j]? with
    | some oj=>oj.after.any (fun e=>Region.binds md e && e.on == k) || stillOp oj.op
    | none=>true
section
variable {P:Program} {ops:Array Oper} {md:Region.Mode} {Q:Exit→Act→World→Prop}
def Fixed (P:Program) (ops:Array Oper) (C:World→Prop) (o:Oper) (v:Value) (a:Act):Prop:=
  (Region.wanted o (yielded ops a.tmps)=true∧∀ w,C w→(execOp a.eval o).run P w=.ok (.value v) w)∨(Region.wanted o (yielded ops a.tmps)=false∧v=undef)
theorem Fixed.of_same {C:World→Prop} {o:Oper} {v:Value} {a a':Act} (hy:Fixed P ops C o v a) (he:execOp a'.eval o=execOp a.eval o)
    (hw:Region.wanted o (yielded ops a'.tmps)=Region.wanted o (yielded ops a.tmps)):Fixed P ops C o v a':=by
  unfold Fixed at *;rw[he,hw];exact hy
theorem Fixed.wpOp {C:World→Prop} {i:Nat} {o:Oper} {v:Value} {a:Act} {w:World} (hi:ops[i]? = some o) (hy:Fixed P ops C o v a) (hw:C w) {K:Act→World→Prop} (h:K (a.put o.dst v) w):wpOp P ops Q i K a w:=by
  unfold Go.wpOp;simp only[hi];rcases hy with ⟨h1,h2⟩|⟨h1,rfl⟩
  · rw[if_pos h1]
    exact .inl (by unfold Oper.wp;rw[h2 w hw];exact h)
  · rw[if_neg (by rw[h1];exact Bool.false_ne_true)]
    exact h
theorem wp_put {C:World→Prop} {oi oj:Oper} {v:Value} (hap:oi.apart ops oj=true) (hpan:∀ c a w,¬ Q (.panic c) a w)
    (hsi:∀ cs b,oi.op≠.select cs b) (hsj:∀ cs b,oj.op≠.select cs b) {K:Act→World→Prop} {a:Act} {w:World}
    (hy:Fixed P ops C oi v a) (h:oj.wp P (a.put oi.dst v) w K Q):oj.wp P a w (fun a' w'=>Fixed P ops C oi v a'∧K (a'.put oi.dst v) w') Q:=by
  obtain⟨h1,h2,h3⟩:=Oper.apart_spec hap;have keep:∀ u,Fixed P ops C oi v (a.put oj.dst u):=fun u=>hy.of_same (execOp_put oi hsi a oj.dst u h3) (wanted_put oi a oj.dst u h3);unfold Oper.wp at *;rw[execOp_put oj hsj a oi.dst v h1] at h;generalize (execOp a.eval oj).run P w=r at *;cases r with
  | ok n w'=>
    cases n<;>simp only[Oper.upon] at h ⊢
    case value u=>exact⟨keep u,by rw[← Act.put_comm a v u h2];exact h⟩
    case skip=>exact⟨keep _,by rw[← Act.put_comm a v undef h2];exact h⟩
    case enter f args=>
      refine Calls.mono h fun e w'' he=>?_;cases e with
      | returned u=>exact⟨keep u,by rw[← Act.put_comm a v u h2];exact he⟩
      | panicked c=>exact absurd he (hpan _ _ _)
      | outgrown=>exact he
    case row r args=>exact Rows.mono h fun u w'' he=>⟨keep u,by rw[← Act.put_comm a v u h2];exact he⟩
    case defer d=>
      have e1:execOp (({ a with defers:=d :: a.defers }:Act).put oj.dst undef).eval oi=execOp (a.put oj.dst undef).eval oi:=by cases oj.dst<;>rfl
      have e2:(({ a with defers:=d :: a.defers }:Act).put oj.dst undef).tmps=(a.put oj.dst undef).tmps:=by cases oj.dst<;>rfl
      refine⟨(keep undef).of_same e1 (by rw[e2]),?_⟩
      have e3:(({ (a.put oi.dst v) with defers:=d :: (a.put oi.dst v).defers }:Act).put oj.dst undef)=(({ a with defers:=d :: a.defers }:Act).put oj.dst undef).put oi.dst v:=by
        rw[← Act.put_comm _ v undef h2];cases oi.dst<;>rfl
      rw[e3] at h;exact h
  | halt x w'=>cases x<;>simp only[Oper.upon] at h ⊢;exact absurd h (hpan _ _ _)
theorem wpOp_put {C:World→Prop} {j:Nat} {oi oj:Oper} {v:Value} (hj:ops[j]? = some oj) (hap:oi.apart ops oj=true) (hpan:∀ c a w,¬ Q (.panic c) a w)
    (hsi:∀ cs b,oi.op≠.select cs b) (hsj:∀ cs b,oj.op≠.select cs b) {K:Act→World→Prop} {a:Act} {w:World} (hC:C w)
    (hCj:∀ (a:Act) (K:Act→World→Prop),oj.wp P a w K Q→oj.wp P a w (fun a' w'=>C w'∧K a' w') Q)
    (hy:Fixed P ops C oi v a) (h:wpOp P ops Q j K (a.put oi.dst v) w):wpOp P ops Q j (fun a' w'=>C w'∧Fixed P ops C oi v a'∧K (a'.put oi.dst v) w') a w:=by
  obtain⟨h1,h2,h3⟩:=Oper.apart_spec hap;unfold wpOp at *;simp only[hj] at *;rw[wanted_put oj a oi.dst v h1] at h;split
  · rename_i hw
    simp only[hw,if_true] at h;rcases h with h|⟨h,hl⟩
    · exact .inl (hCj a _ (wp_put hap hpan hsi hsj hy h))
    · refine .inr ⟨?_,hl⟩
      unfold Oper.asks at *
      rwa [execOp_put oj hsj a oi.dst v h1] at h
  · rename_i hw
    simp only[hw] at h;exact⟨hC,hy.of_same (execOp_put oi hsi a oj.dst undef h3) (wanted_put oi a oj.dst undef h3),by rw[← Act.put_comm a v undef h2];exact h⟩
theorem wpAny_first {C:World→Prop} {i:Nat} {oi:Oper} {v:Value} (hpan:∀ c a w,¬ Q (.panic c) a w) (hi:ops[i]? = some oi) (hsel:∀ (j:Nat) (o:Oper) cs b,ops[j]? = some o→o.op≠.select cs b) :
    ∀ (fuel:Nat) (listed:Array Bool) (a:Act) (w:World),C w →
      (∀ j oj,ops[j]? = some oj→j≠i→listed.getD j true=false→(∀ e∈oj.after,Region.binds md e=true→e.on≠i)→oi.apart ops oj=true ∧
        ∀ (w:World),C w→∀ (a:Act) (K:Act→World→Prop),oj.wp P a w K Q→oj.wp P a w (fun a' w'=>C w'∧K a' w') Q) →
      i∈Region.ready md ops listed→Fixed P ops C oi v a →
      wpAny P md ops Q fuel (listed.setIfInBounds i true) (a.put oi.dst v) w→wpAny P md ops Q (fuel+1) listed a w:=by
  intro fuel
  induction fuel with
  | zero=>
    intro listed a w hC _ hr hy H;refine⟨fun h=>(by rw[h] at hr;cases hr),fun j hj=>?_⟩;by_cases hji:j=i
    · subst hji;exact hy.wpOp hi hC H
    · have:=ready_mono hj hji
      rw[H.1] at this;cases this
  | succ fuel ih=>
    intro listed a w hC hfree hr hy H;refine⟨fun h=>(by rw[h] at hr;cases hr),fun j hj=>?_⟩;by_cases hji:j=i
    · subst hji;exact hy.wpOp hi hC H
    · have h1:=H.2 j (ready_mono hj hji)
      obtain⟨hjun,oj,hoj,hall⟩:=mem_ready.1 hj
      have hnot:∀ e∈oj.after,Region.binds md e=true→e.on≠i:=fun e he hb heq=>by
        have h1:=hall e he hb;have h0:=(mem_ready.1 hr).1;rw[heq] at h1;rcases Nat.lt_or_ge i listed.size with h'|h'
        · simp [h'] at h0 h1;rw[h0] at h1;cases h1
        · simp [Array.getElem?_eq_none h'] at h1
      obtain⟨hap,hkeep⟩:=hfree j oj hoj hji hjun hnot;have h2:=wpOp_put hoj hap hpan (fun cs b=>hsel i oi cs b hi) (fun cs b=>hsel j oj cs b hoj) hC (hkeep w hC) hy h1;have hfree':∀ k ok,ops[k]? = some ok→k≠i→(listed.setIfInBounds j true).getD k true=false→(∀ e∈ok.after,Region.binds md e=true→e.on≠i)→oi.apart ops ok=true ∧
          ∀ (w:World),C w→∀ (a:Act) (K:Act→World→Prop),ok.wp P a w K Q→ok.wp P a w (fun a' w'=>C w'∧K a' w') Q:=fun k ok hk hki hun hno=>by
        refine hfree k ok hk hki ?_ hno;by_cases hjk:j=k
        · subst hjk;exact hjun
        · rw[getD_set_ne true hjk] at hun;exact hun
      refine wpOp_mono (fun a' w' h3=>ih (listed.setIfInBounds j true) a' w' h3.1 hfree' (ready_mono hr (Ne.symm hji)) h3.2.1 ?_) h2;rw[Array.setIfInBounds_comm _ _ hji];exact h3.2.2
def Keeps {α:Type} (P:Program) (m:Sem α):Prop:=∀ w r w',m.run P w=.ok r w'→w'=w
theorem Zg {α:Type} (x:α):Keeps P (pure x:Sem α):=by
  intro w r w' h;rw[Sem.run_pure] at h;cases h;rfl
theorem Zh {α β:Type} {m:Sem α} {f:α→Sem β} (h1:Keeps P m) (h2:∀ x,Keeps P (f x)):Keeps P (m >>= f):=by
  intro w r w' h;rw[Sem.run_bind] at h;cases hm:m.run P w with
  | ok x w1=>
    rw[hm,Result.andThen_ok] at h;rw[h2 x _ _ _ h,h1 _ _ _ hm]
  | halt x w1=>rw[hm] at h;cases h
theorem keeps_load (ad:Addr):Keeps P (load ad):=by
  intro w r w' h;unfold load at h;simp only[Sem.run] at h;split at h
  · cases h;rfl
  · split at h
    · cases h;rfl
    · cases h
theorem keeps_under (t:TypeId):Keeps P (underlying t):=by
  intro w r w' h;cases hu:P.underlying t with
  | some d=>
    have h2:(underlying t).run P w=.ok d w:=by rw[run_underlying hu]
    rw[h2] at h;cases h;rfl
  | none=>unfold underlying at h;simp [hu,stuck] at h
theorem keeps_isAgg (t:TypeId):Keeps P (isAgg t):=by
  unfold isAgg;refine Zh (keeps_under t) fun x=>?_;split<;>exact Zg _
theorem keeps_sizeOf (t:TypeId):Keeps P (sizeOf t):=by
  intro w r w' h;unfold sizeOf typeInfo at h;cases hu:P.info? t with
  | some d=>simp [hu] at h;exact h.2.symm
  | none=>simp [hu,stuck] at h
theorem keeps_loadCells (ad:Addr):∀ (n i:Nat) (acc:Array Value),Keeps P (loadCellsFrom ad i n acc)
  | 0,i,acc=>Zg _
  | n+1,i,acc=>by
    unfold loadCellsFrom;exact Zh (keeps_load _) fun v=>keeps_loadCells ad n (i+1) _
theorem keeps_loadAt (t:TypeId) (v:Value):Keeps P (Instr.loadAt t v):=by
  unfold Instr.loadAt;refine Zh ?_ fun ad=>?_
  · unfold Instr.sureAddr
    split
    · exact Zg _
    · intro w r w' h;simp [stuck] at h
  · unfold loadVar
    refine Zh (keeps_isAgg t) fun x=>?_;split
    · refine Zh (keeps_sizeOf t) fun n=>Zh (keeps_loadCells _ _ _ _) fun _=>Zg _
    · exact keeps_load _
theorem keeps_stuck {α:Type} (s:String):Keeps P (stuck s:Sem α):=by
  intro w r w' h;simp [stuck] at h
theorem keeps_shift (op:BinOp) (k yk:IntKind) (x y:Int):Keeps P (Op.shift op k x yk y):=by
  unfold Op.shift;split
  · intro w r w' h
    simp [runtimePanic] at h
  · split<;>first|exact Zg _|exact keeps_stuck _
theorem keeps_intBits (op:BinOp) (k:IntKind) (x y:Int):Keeps P (Op.intBits op k x y):=by
  unfold Op.intBits;split<;>first|exact Zg _|exact keeps_stuck _
theorem keeps_shlr (op:BinOp) (hop:op=.shl∨op=.shr∨op=.xor) (t:TypeId) (x y:Value):Keeps P (binOp op t x y):=by
  rcases hop with rfl|rfl|rfl<;>unfold binOp<;>split<;>(try contradiction)<;>first
    | exact keeps_shift _ _ _ _ _
    | exact keeps_stuck _
    | (split<;>first|exact keeps_stuck _|exact keeps_intBits _ _ _ _|(simp only[Op.floatCmp,Op.complexOp];exact keeps_stuck _))
    | (simp only[Op.stringOp];exact keeps_stuck _)
    | (intro w r w' h;simp [unsupported] at h)
    | skip
theorem still_keeps {o:Oper} (ho:stillOp o.op=true) {w:World} {a:Act} {K:Act→World→Prop} (h:o.wp P a w K Q):o.wp P a w (fun a' w'=>w'=w∧K a' w') Q:=by
  have fin:(∀ n w',(execOp a.eval o).run P w=.ok n w'→w'=w∧∃ v,n=.value v)→o.wp P a w (fun a' w'=>w'=w∧K a' w') Q:=by
    intro key;unfold Oper.wp at *;cases hr:(execOp a.eval o).run P w with
    | ok n w'=>
      obtain⟨rfl,v,rfl⟩:=key n w' hr;rw[hr] at h;exact⟨rfl,h⟩
    | halt x w'=>rw[hr] at h;cases x<;>simp only[Oper.upon] at h ⊢;exact h
  have valued:∀ m:Sem Value,Keeps P m→(execOp a.eval o=do pure (.value (← m)))→∀ n w',(execOp a.eval o).run P w=.ok n w'→w'=w∧∃ v,n=.value v:=by
    intro m hm he n w' hrun;rw[he,Sem.run_bind] at hrun;cases hl:m.run P w with
    | ok v w1=>
      rw[hl,Result.andThen_ok,Sem.run_pure] at hrun;have:=hm _ _ _ hl;cases hrun
      exact⟨this,v,rfl⟩
    | halt x w1=>rw[hl] at hrun;cases hrun
  refine fin ?_;unfold stillOp at ho;split at ho
  · rename_i t x hx
    exact valued _ (keeps_loadAt t (a.eval x)) (by simp only[execOp,hx])
  · rename_i t x ty y hx
    exact valued _ (Zh (m:=eqGuard .shl t x ty (a.eval x) (a.eval ty)) (Zg _) fun _=>keeps_shlr .shl (.inl rfl) t (a.eval x) (a.eval ty)) (by simp only[execOp,hx])
  · rename_i t x ty y hx
    exact valued _ (Zh (m:=eqGuard .shr t x ty (a.eval x) (a.eval ty)) (Zg _) fun _=>keeps_shlr .shr (.inr (.inl rfl)) t (a.eval x) (a.eval ty)) (by simp only[execOp,hx])
  · rename_i t x ty y hx
    exact valued _ (Zh (m:=eqGuard .xor t x ty (a.eval x) (a.eval ty)) (Zg _) fun _=>keeps_shlr .xor (.inr (.inr rfl)) t (a.eval x) (a.eval ty)) (by simp only[execOp,hx])
  · cases ho
/-! ### In order -/
variable {F:Frm} {k:St→Prop} {R0:Nat→Prop} {w0:Org}
theorem wo_cases {o:Oper} {rest:List Oper} {st:St} {a:Act} {w:World} (h:WO P F (ops.toList.map (·.dst)) (o :: rest) st k) (hr:Rel F R0 w0 st a w) :
    (Region.wanted o (yielded ops a.tmps)=true∧∃ st1,Rel F R0 w0 st1 a w∧QO st1 o.dst∧stepO P F st1 o.dst o.op fun st'=>WO P F (ops.toList.map (·.dst)) rest st' k) ∨
    (Region.wanted o (yielded ops a.tmps)=false∧∃ st1,Rel F R0 w0 st1 a w∧QO st1 o.dst∧WO P F (ops.toList.map (·.dst)) rest (st1.put o.dst (.v undef)) k):=by
  unfold WO at h;split at h
  · rename_i hg
    exact .inl ⟨by simp [Region.wanted,hg],st,hr,h.1,h.2⟩
  · rename_i j want hg
    split at h
    · exact h.elim
    · rename_i t hj
      obtain⟨ob,R,hrr⟩:=hr;split at h
      · rename_i hl
        have hy:=QM (tmps:=a.tmps) hj (hrr.env t _ hl).1;split at h
        · rename_i hw
          subst hw;exact .inl ⟨by simp [Region.wanted,hg,hy],st,⟨ob,R,hrr⟩,h.1,h.2⟩
        · rename_i hw
          have hwf:want=false:=by simpa using hw
          subst hwf;exact .inr ⟨by simp [Region.wanted,hg,hy],st,⟨ob,R,hrr⟩,h.1,h.2⟩
      · rename_i hl
        have hy:=QM (tmps:=a.tmps) hj (hrr.env t _ hl).1;split at h
        · rename_i hw
          subst hw;exact .inl ⟨by simp [Region.wanted,hg,hy],st,⟨ob,R,hrr⟩,h.1,h.2⟩
        · rename_i hw
          have hwf:want=true:=by simpa using hw
          subst hwf;exact .inr ⟨by simp [Region.wanted,hg,hy],st,⟨ob,R,hrr⟩,h.1,h.2⟩
      · rename_i vs hl
        have hy:yielded ops a.tmps j=none:=yielded_none hj (hrr.env t _ hl).1;exact .inr ⟨by simp [Region.wanted,hg,hy],st,⟨ob,R,hrr⟩,h.1,h.2⟩
      · rename_i x hl
        obtain⟨_,ht,hf⟩:=h;have hy:=QM (tmps:=a.tmps) hj (hrr.env t _ hl).1;cases x with
        | true=>
          have h:=ht rfl;have hr':=hrr.know (s':=.tt) hl rfl (fun _=>trivial);split at h
          · rename_i hw
            subst hw;exact .inl ⟨by simp [Region.wanted,hg,hy],_,⟨ob,R,hr'⟩,h.1,h.2⟩
          · rename_i hw
            have hwf:want=false:=by simpa using hw
            subst hwf;exact .inr ⟨by simp [Region.wanted,hg,hy],_,⟨ob,R,hr'⟩,h.1,h.2⟩
        | false=>
          have h:=hf rfl;have hr':=hrr.know (s':=.ff) hl rfl (fun _=>trivial);split at h
          · rename_i hw
            subst hw;exact .inl ⟨by simp [Region.wanted,hg,hy],_,⟨ob,R,hr'⟩,h.1,h.2⟩
          · rename_i hw
            have hwf:want=true:=by simpa using hw
            subst hwf;exact .inr ⟨by simp [Region.wanted,hg,hy],_,⟨ob,R,hr'⟩,h.1,h.2⟩
      · exact h.elim
theorem stepO_plain {st:St} {dst:Option Tmp} {op:Op} (hop:wless op=true∨loadOp op=true) (h:stepO P F st dst op k):Vok P st op (fun s=>k (st.put dst s)):=by
  unfold stepO at h;split at h<;>first
    | exact rOp_ok h
    | (rcases hop with h9|h9<;>simp [wless,loadOp] at h9;done)
    | (rcases hop with h9|h9
       · simp [wless] at h9
       · simp only[loadOp,bne_iff_ne,ne_eq] at h9
         rw[if_neg h9] at h
         exact rOp_ok h)
end
end Eng
end Go.Proofs.YtabgkfjfmjdfiaaGreatDoor

namespace Go.Proofs.YtabgkfjfmjdfiaaGreatDoor
namespace Eng
section
variable {P:Program} {F:Frm} {n:Nat} {env:List (Nat×SV)} {own:List Own}
theorem Sat.settle {c:Code} {K:Exit→St→Prop} (t:Nat) {id len cap sz:Nat} {a:Option Addr} {rd:Nat→Nat→SV} {own':List Own} (hl:look env t=some (.os id a len cap)) (ho:frz own [.os id a len cap]=own') (hf:asRead own' (.os id a len cap)=some (a,len,cap,sz,rd))
    (h:Sat P F c ⟨n,(t,.sl a len cap sz rd) :: env,own'⟩ K):Sat P F c ⟨n,env,own⟩ K:=by
  subst ho;rintro R0 w0 ac w ⟨ob,R,hr⟩;obtain⟨R',hRR,hr'⟩:=hr.frz [.os id a len cap];refine h R0 w0 ac w ⟨ob,R',?_⟩;have h1:=hr'.env t _ hl;have h2:=(asRead_ok (st:=⟨n,env,frz own [.os id a len cap]⟩) hf hr'.own h1.2).2;refine⟨hr'.defers,?_,hr'.size,hr'.own,hr'.dist,hr'.evo,hr'.inv,hr'.obM,hr'.gb,hr'.obw,hr'.rr,hr'.r0⟩;intro u s hu;simp only[look] at hu;split at hu
  · rename_i e
    simp only[Option.some.injEq] at hu;subst hu;subst e;exact⟨h1.1,h2⟩
  · exact hr'.env u s hu
theorem Sat.settle2 {c:Code} {K:Exit→St→Prop} (t:Nat) {id e len cap sz:Nat} {a:Option Addr} {rd:Nat→Nat→SV} (hl:look env t=some (.os id a len cap)) (ho:own[id]? = some (.row a e len cap sz rd))
    (h:Sat P F c ⟨n,(t,.sl a len cap sz rd) :: env,own.set id (.frz a len cap sz rd)⟩ K):Sat P F c ⟨n,env,own⟩ K:=by
  have hlt:id<own.length:=(List.getElem?_eq_some_iff.1 ho).1
  have h1:frz own [.os id a len cap]=own.set id (.frz a len cap sz rd):=by
    simp [frz,frzOne,ho]
  refine Sat.settle t hl h1 ?_ h;simp [asRead,hlt]
end
section
variable {P:Program} {F:Frm}
variable {l:List Oper} {md:Region.Mode} {Q:Exit→Act→World→Prop} {k:St→Prop} {R0:Nat→Prop} {w0:Org}
theorem list_get {i:Nat} {o:Oper} (h:l.toArray[i]? = some o):l.getD i default=o:=by
  have:l[i]? = some o:=by simpa using h
  simp [List.getD,this]
theorem tree_one (hpan:∀ c a w,¬ Q (.panic c) a w) {i:Nat} {o:Oper} (hi:l.toArray[i]? = some o) {st:St} {a:Act} {w:World} {k':St→Prop} (h:WO P F (l.toArray.toList.map (·.dst)) [o] st k') (hr:Rel F R0 w0 st a w)
    {K:Act→World→Prop} (hK:∀ st' a' w',k' st'→Rel F R0 w0 st' a' w'→K a' w'):wpOp P l.toArray Q i K a w:=by
  unfold wpOp;simp only[hi];rcases wo_cases h hr with ⟨hw,st1,hr1,hd,hs⟩|⟨hw,st1,⟨ob,R,hr1⟩,hd,hs⟩
  · rw[if_pos hw]
    exact .inl (stepO_good hd hs _ _ _ _ o _ _ rfl rfl hr1 fun st' a' w' h' hr'=>hK st' a' w' h' hr')
  · rw[if_neg (by rw[hw];exact Bool.false_ne_true)]
    exact hK _ _ _ hs ⟨ob,R,hr1.put (s:=.v undef) (Qr hd) trivial⟩
end
/-! ### Loads that may come at any time,beside calls that keep what they read -/
section
variable {P:Program} {ops:Array Oper} {md:Region.Mode} {Q:Exit→Act→World→Prop} {T:World→Prop} {W:Nat→Bool}
def wpAnyT (P:Program) (md:Region.Mode) (ops:Array Oper) (Q:Exit→Act→World→Prop) (T:World→Prop) (W:Nat→Bool):Nat→Bool→Array Bool→Act→World→Prop
  | 0,_,listed,a,w=>Region.ready md ops listed=[]∧Q .normal a w
  | f+1,b,listed,a,w=>(Region.ready md ops listed=[]→Q .normal a w)∧∀ j∈Region.ready md ops listed,wpOp P ops Q j (fun a' w'=>((b && W j)=true→T w')∧wpAnyT P md ops Q T W f (b && W j) (listed.setIfInBounds j true) a' w') a w
theorem wpAny_of_T:∀ (f:Nat) (b:Bool) (listed:Array Bool) (a:Act) (w:World),wpAnyT P md ops Q T W f b listed a w→wpAny P md ops Q f listed a w
  | 0,_,_,_,_,h=>h
  | f+1,_,_,_,_,h=>⟨h.1,fun j hj=>wpOp_mono (fun a' w' hk=>wpAny_of_T f _ _ a' w' hk.2) (h.2 j hj)⟩
theorem wpOp_putT {C:World→Prop} {j:Nat} {oi oj:Oper} {v:Value} (hj:ops[j]? = some oj) (hap:oi.apart ops oj=true) (hpan:∀ c a w,¬ Q (.panic c) a w)
    (hsi:∀ cs b,oi.op≠.select cs b) (hsj:∀ cs b,oj.op≠.select cs b) {K:Act→World→Prop} {a:Act} {w:World}
    (hy:Fixed P ops C oi v a) (h:wpOp P ops Q j K (a.put oi.dst v) w):wpOp P ops Q j (fun a' w'=>Fixed P ops C oi v a'∧K (a'.put oi.dst v) w') a w:=by
  obtain⟨h1,h2,h3⟩:=Oper.apart_spec hap;unfold wpOp at *;simp only[hj] at *;rw[wanted_put oj a oi.dst v h1] at h;split
  · rename_i hw
    simp only[hw,if_true] at h;rcases h with h|⟨h,hl⟩
    · exact .inl (wp_put hap hpan hsi hsj hy h)
    · refine .inr ⟨?_,hl⟩
      unfold Oper.asks at *
      rwa [execOp_put oj hsj a oi.dst v h1] at h
  · rename_i hw
    simp only[hw] at h;exact⟨hy.of_same (execOp_put oi hsi a oj.dst undef h3) (wanted_put oi a oj.dst undef h3),by rw[← Act.put_comm a v undef h2];exact h⟩
theorem getD_mono {listed:Array Bool} {i:Nat} (h:listed.getD i true=false):listed.getD i false=false:=by
  rcases Nat.lt_or_ge i listed.size with h'|h'
  · simp [h'] at h ⊢;exact h
  · simp [Array.getElem?_eq_none h'] at h
theorem wpAnyT_first {i:Nat} {oi:Oper} {v:Value} (Bl:Nat→Bool) (hpan:∀ c a w,¬ Q (.panic c) a w) (hi:ops[i]? = some oi) (hsel:∀ (j:Nat) (o:Oper) cs b,ops[j]? = some o→o.op≠.select cs b) (hWi:W i=true)
    (hblk:∀ j oj,ops[j]? = some oj→Bl j=true→j≠i→∃ e∈oj.after,Region.binds md e=true∧Bl e.on=true) :
    ∀ (fuel:Nat) (listed:Array Bool) (a:Act) (w:World),T w→(∀ j,Bl j=true→listed.getD j false=false) →
      (∀ j oj,ops[j]? = some oj→j≠i→listed.getD j true=false→(∀ e∈oj.after,Region.binds md e=true→e.on≠i)→oi.apart ops oj=true∧(Bl j=false→W j=true)) →
      i∈Region.ready md ops listed→Fixed P ops T oi v a →
      wpAnyT P md ops Q T W fuel true (listed.setIfInBounds i true) (a.put oi.dst v) w→wpAnyT P md ops Q T W (fuel+1) true listed a w:=by
  intro fuel
  have free:∀ (listed:Array Bool),(∀ j,Bl j=true→listed.getD j false=false)→∀ j,j∈Region.ready md ops listed→j≠i→Bl j=false:=by
    intro listed hb j hj hji;obtain⟨hjun,oj,hoj,hall⟩:=mem_ready.1 hj;cases hbl:Bl j with
    | false=>rfl
    | true=>
      obtain⟨e,he,hbd,hon⟩:=hblk j oj hoj hbl hji;have h1:=hall e he hbd;rw[hb _ hon] at h1;cases h1
  have ei:(true && W i)=true:=by rw[hWi];rfl
  induction fuel with
  | zero=>
    intro listed a w hT hb _ hr hy H;refine⟨fun h=>(by rw[h] at hr;cases hr),fun j hj=>?_⟩;by_cases hji:j=i
    · subst hji;exact hy.wpOp hi hT ⟨fun _=>hT,by rw[ei];exact H⟩
    · have:=ready_mono hj hji
      rw[H.1] at this;cases this
  | succ fuel ih=>
    intro listed a w hT hb hfree hr hy H;refine⟨fun h=>(by rw[h] at hr;cases hr),fun j hj=>?_⟩;by_cases hji:j=i
    · subst hji;exact hy.wpOp hi hT ⟨fun _=>hT,by rw[ei];exact H⟩
    · have h1:=H.2 j (ready_mono hj hji)
      have hnb:=free listed hb j hj hji;obtain⟨hjun,oj,hoj,hall⟩:=mem_ready.1 hj
      have hnot:∀ e∈oj.after,Region.binds md e=true→e.on≠i:=fun e he hbd heq=>by
        have h1:=hall e he hbd;have h0:=(mem_ready.1 hr).1;rw[heq,getD_mono h0] at h1;cases h1
      obtain⟨hap,hW⟩:=hfree j oj hoj hji hjun hnot;have ej:(true && W j)=true:=by rw[hW hnb];rfl
      rw[ej] at h1 ⊢;have h2:=wpOp_putT hoj hap hpan (fun cs b=>hsel i oi cs b hi) (fun cs b=>hsel j oj cs b hoj) hy h1;refine wpOp_mono (fun a' w' h3=>⟨h3.2.1,ih (listed.setIfInBounds j true) a' w' (h3.2.1 rfl) (fun b hbb=>?_) (fun k ok hk hki hun hno=>hfree k ok hk hki ?_ hno) (ready_mono hr (Ne.symm hji)) h3.1 ?_⟩) h2
      · have hne:j≠b:=fun e=>by subst e;rw[hnb] at hbb;cases hbb
        rw[getD_set_ne false hne];exact hb b hbb
      · by_cases hjk:j=k
        · subst hjk;exact hjun
        · rw[getD_set_ne true hjk] at hun;exact hun
      · rw[Array.setIfInBounds_comm _ _ hji]
        exact h3.2.2
theorem wpAnyT_wless {i:Nat} {oi:Oper} {v:Value} (hpan:∀ c a w,¬ Q (.panic c) a w) (hi:ops[i]? = some oi) (hsel:∀ (j:Nat) (o:Oper) cs b,ops[j]? = some o→o.op≠.select cs b) :
    ∀ (fuel:Nat) (b:Bool) (listed:Array Bool) (a:Act) (w:World),(b=true→W i=true∧T w) →
      (∀ j oj,ops[j]? = some oj→j≠i→listed.getD j true=false→(∀ e∈oj.after,Region.binds md e=true→e.on≠i)→oi.apart ops oj=true) →
      i∈Region.ready md ops listed→Fixed P ops (fun _=>True) oi v a →
      wpAnyT P md ops Q T W fuel b (listed.setIfInBounds i true) (a.put oi.dst v) w→wpAnyT P md ops Q T W (fuel+1) b listed a w:=by
  intro fuel
  have eb:∀ {b:Bool} {w:World},(b=true→W i=true∧T w)→(b && W i)=b:=fun {b w} h=>by
    cases b with
    | false=>rfl
    | true=>rw[(h rfl).1];rfl
  induction fuel with
  | zero=>
    intro b listed a w hb _ hr hy H;refine⟨fun h=>(by rw[h] at hr;cases hr),fun j hj=>?_⟩;by_cases hji:j=i
    · subst hji
      rw[eb hb];exact hy.wpOp hi trivial ⟨fun h=>(hb h).2,H⟩
    · have:=ready_mono hj hji
      rw[H.1] at this;cases this
  | succ fuel ih=>
    intro b listed a w hb hfree hr hy H;refine⟨fun h=>(by rw[h] at hr;cases hr),fun j hj=>?_⟩;by_cases hji:j=i
    · subst hji
      rw[eb hb];exact hy.wpOp hi trivial ⟨fun h=>(hb h).2,H⟩
    · have h1:=H.2 j (ready_mono hj hji)
      obtain⟨hjun,oj,hoj,hall⟩:=mem_ready.1 hj
      have hnot:∀ e∈oj.after,Region.binds md e=true→e.on≠i:=fun e he hbd heq=>by
        have h1:=hall e he hbd;have h0:=(mem_ready.1 hr).1;rw[heq,getD_mono h0] at h1;cases h1
      have h2:=wpOp_putT hoj (hfree j oj hoj hji hjun hnot) hpan (fun cs b=>hsel i oi cs b hi) (fun cs b=>hsel j oj cs b hoj) hy h1;refine wpOp_mono (fun a' w' h3=>⟨h3.2.1,ih (b && W j) (listed.setIfInBounds j true) a' w' (fun h9=>⟨?_,h3.2.1 h9⟩) (fun k ok hk hki hun hno=>hfree k ok hk hki ?_ hno) (ready_mono hr (Ne.symm hji)) h3.1 ?_⟩) h2
      · simp only[Bool.and_eq_true] at h9
        exact (hb h9.1).1
      · by_cases hjk:j=k
        · subst hjk;exact hjun
        · rw[getD_set_ne true hjk] at hun;exact hun
      · rw[Array.setIfInBounds_comm _ _ hji]
        exact h3.2.2
def blkA (md:Region.Mode) (ops:Array Oper) (k:Nat):Array Bool:=
  (List.range ops.size).foldl (fun acc j=>acc.push (j == k || match ops[j]? with|some o=>o.after.any (fun e=>Region.binds md e && acc.getD e.on false)|none=>false)) #[]
def blkOk (md:Region.Mode) (ops:Array Oper) (k:Nat) (B:Array Bool) (listed:Array Bool) (W:Nat→Bool):Bool:=
  (B.size == ops.size) && (List.range ops.size).all fun j=>(!B.getD j false || ((j == k || match ops[j]? with|some o=>o.after.any (fun e=>Region.binds md e && B.getD e.on false)|none=>false) && !listed.getD j false)) && (j == k || listed.getD j true || B.getD j false || W j)
inductive BT where
  | done
  | free (i:Nat) (t:BT)
  | one (i:Nat) (t:BT)
  | alt (i:Nat) (t:BT) (rest:BT)
  | none
def BT.heads:BT→List Nat
  | .alt i _ r=>i :: r.heads
  | _=>[]
def btGo (md:Region.Mode) (ops:Array Oper):BT→Bool→Nat→Array Bool→Bool
  | .done,_,m,listed=>m == 0 && (Region.ready md ops listed).isEmpty
  | .free k t,_,m+1,listed=>(Region.ready md ops listed).contains k && (match ops[k]? with|some o=>wless o.op|none=>false) && Region.free md ops listed k && btGo md ops t true m (listed.setIfInBounds k true)
  | .one k t,_,m+1,listed=>Region.ready md ops listed == [k] && (ops[k]?).isSome && btGo md ops t true m (listed.setIfInBounds k true)
  | .alt i t r,top,m+1,listed=>(!top || (Region.ready md ops listed).all fun j=>(i :: r.heads).contains j) && !(Region.ready md ops listed).isEmpty && (ops[i]?).isSome && btGo md ops t true m (listed.setIfInBounds i true) && btGo md ops r false (m+1) listed
  | .none,top,_,_=>!top
  | _,_,_,_=>false
def PreP (md:Region.Mode) (ops:Array Oper) (bt:BT) (m:Nat) (W:Nat→Bool):List Nat→Array Bool→Prop
  | [],listed=>btGo md ops bt true m listed=true
  | k :: r,listed=>k∈Region.ready md ops listed∧Region.free md ops listed k=true∧W k=true ∧
      (∃ o,ops[k]? = some o∧(wless o.op=true∨loadOp o.op=true ∧
        ∃ Bl:Nat→Bool,(∀ j oj,ops[j]? = some oj→Bl j=true→j≠k→∃ e∈oj.after,Region.binds md e=true∧Bl e.on=true)∧(∀ j,Bl j=true→listed.getD j false=false) ∧
          ∀ j,j<ops.size→j=k∨listed.getD j true=true∨Bl j=true∨W j=true))∧PreP md ops bt m W r (listed.setIfInBounds k true)
def keepGo (md:Region.Mode) (ops:Array Oper) (bt:BT) (m:Nat) (W:Nat→Bool):List Nat→Array Bool→Bool
  | [],listed=>btGo md ops bt true m listed
  | k :: r,listed=>(Region.ready md ops listed).contains k && Region.free md ops listed k && W k && (match ops[k]? with|some o=>wless o.op || (loadOp o.op && blkOk md ops k (blkA md ops k) listed W)|none=>false) && keepGo md ops bt m W r (listed.setIfInBounds k true)
theorem blk_of {k:Nat} {listed:Array Bool} {W:Nat→Bool} (hblk:blkOk md ops k (blkA md ops k) listed W=true):∃ Bl:Nat→Bool,(∀ j oj,ops[j]? = some oj→Bl j=true→j≠k→∃ e∈oj.after,Region.binds md e=true∧Bl e.on=true)∧(∀ j,Bl j=true→listed.getD j false=false) ∧
    ∀ j,j<ops.size→j=k∨listed.getD j true=true∨Bl j=true∨W j=true:=by
  refine⟨fun j=>(blkA md ops k).getD j false,?_⟩;simp only[blkOk,Bool.and_eq_true,beq_iff_eq] at hblk;obtain⟨hsz,hall⟩:=hblk
  have hin:∀ j,(blkA md ops k).getD j false=true→j<ops.size:=fun j hj=>by
    rcases Nat.lt_or_ge j ops.size with h|h
    · exact h
    · rw[← hsz] at h
      simp [Array.getElem?_eq_none h] at hj
  have hrow:∀ j,j<ops.size→((blkA md ops k).getD j false=true→(j=k∨∃ oj,ops[j]? = some oj∧∃ e∈oj.after,Region.binds md e=true∧(blkA md ops k).getD e.on false=true)∧listed.getD j false=false)∧(j=k∨listed.getD j true=true∨(blkA md ops k).getD j false=true∨W j=true):=by
    intro j hj;have h1:=List.all_eq_true.1 hall j (List.mem_range.2 hj);simp only[Bool.and_eq_true,Bool.or_eq_true,beq_iff_eq,Bool.not_eq_true'] at h1;obtain⟨h1,h2⟩:=h1;refine⟨fun hb=>?_,?_⟩
    · rcases h1 with h1|⟨h1,h3⟩
      · rw[hb] at h1;cases h1
      · refine⟨?_,h3⟩
        rcases h1 with h1|h1
        · exact .inl h1
        · right
          cases hj2:ops[j]? with
          | none=>rw[hj2] at h1;cases h1
          | some oj=>
            rw[hj2] at h1;obtain⟨e,he,hb2⟩:=Array.any_eq_true'.1 h1;simp only[Bool.and_eq_true] at hb2;exact⟨oj,rfl,e,he,hb2⟩
    · rcases h2 with ((h2|h2)|h2)|h2
      · exact .inl h2
      · exact .inr (.inl h2)
      · exact .inr (.inr (.inl h2))
      · exact .inr (.inr (.inr h2))
  refine⟨fun j oj hj hb hne=>?_,fun j hb=>((hrow j (hin j hb)).1 hb).2,fun j hj=>(hrow j hj).2⟩;rcases ((hrow j (hin j hb)).1 hb).1 with h9|⟨oj',h9,e,he,hb2⟩
  · exact absurd h9 hne
  · obtain rfl:oj=oj':=Option.some.inj (hj.symm.trans h9)
    exact⟨e,he,hb2⟩
theorem preP_of {bt:BT} {m:Nat} {W:Nat→Bool}:∀ (ls:List Nat) (listed:Array Bool),keepGo md ops bt m W ls listed=true→PreP md ops bt m W ls listed
  | [],listed,h=>h
  | k :: r,listed,h=>by
    simp only[keepGo,Bool.and_eq_true] at h;obtain⟨⟨⟨⟨hready,hfree⟩,hW⟩,hk⟩,hB'⟩:=h;refine⟨by simpa using hready,hfree,hW,?_,preP_of r _ hB'⟩;cases hi:ops[k]? with
    | none=>rw[hi] at hk;cases hk
    | some o=>
      rw[hi] at hk;simp only[Bool.or_eq_true,Bool.and_eq_true] at hk;exact⟨o,rfl,hk.imp id fun h9=>⟨h9.1,blk_of h9.2⟩⟩
def keepW (ls ws:List Nat):Nat→Bool:=fun j=>ls.contains j || ws.contains j
end
section
variable {P:Program} {F:Frm}
def WBT (P:Program) (F:Frm) (ds:List (Option Tmp)) (l:List Oper) (own0:List Own) (W:Nat→Bool):Bool→BT→St→(St→Prop)→Prop
  | _,.done,st,k=>k st
  | b,.free i t,st,k=>(b=true→W i=true∧st.own.take own0.length=own0)∧WO P F ds [l.getD i default] st (fun st'=>WBT P F ds l own0 W b t st' k)
  | b,.one i t,st,k=>WO P F ds [l.getD i default] st (fun st'=>((b && W i)=true→st'.own.take own0.length=own0)∧WBT P F ds l own0 W (b && W i) t st' k)
  | b,.alt i t r,st,k=>WO P F ds [l.getD i default] st (fun st'=>((b && W i)=true→st'.own.take own0.length=own0)∧WBT P F ds l own0 W (b && W i) t st' k)∧WBT P F ds l own0 W b r st k
  | _,.none,_,_=>True
variable {l:List Oper} {md:Region.Mode} {Q:Exit→Act→World→Prop} {k:St→Prop} {R0:Nat→Prop} {w0:Org} {T:World→Prop} {W:Nat→Bool}
theorem wbt_sound (hpan:∀ c a w,¬ Q (.panic c) a w) (hsel:Region.noSelect l.toArray=true) (own0:List Own) (hT:∀ st' a' w',Rel F R0 w0 st' a' w'→st'.own.take own0.length=own0→T w'):∀ (t:BT) (b top:Bool) (m:Nat) (listed:Array Bool) (st:St) (a:Act) (w:World),btGo md l.toArray t top m listed=true →
    WBT P F (l.toArray.toList.map (·.dst)) l own0 W b t st k→Rel F R0 w0 st a w→(∀ st' a' w',k st'→Rel F R0 w0 st' a' w'→Q .normal a' w') →
    (top=true→wpAnyT P md l.toArray Q T W m b listed a w)∧(∀ j∈t.heads,∃ m',m=m'+1∧wpOp P l.toArray Q j (fun a' w'=>((b && W j)=true→T w')∧wpAnyT P md l.toArray Q T W m' (b && W j) (listed.setIfInBounds j true) a' w') a w)
  | .done,b,top,m,listed,st,a,w,hB,h,hr,hk=>by
    refine⟨fun _=>?_,fun j hj=>by cases hj⟩;simp only[btGo,Bool.and_eq_true,beq_iff_eq] at hB;obtain⟨rfl,hB⟩:=hB;exact⟨by simpa using hB,hk _ _ _ h hr⟩
  | .none,b,top,m,listed,st,a,w,hB,h,hr,hk=>by
    refine⟨fun ht=>?_,fun j hj=>by cases hj⟩;subst ht;simp [btGo] at hB
  | .one i t,b,top,0,listed,st,a,w,hB,h,hr,hk=>by simp [btGo] at hB
  | .free i t,b,top,0,listed,st,a,w,hB,h,hr,hk=>by simp [btGo] at hB
  | .free i t,b,top,m+1,listed,st,a,w,hB,h,hr,hk=>by
    refine⟨fun _=>?_,fun j hj=>by cases hj⟩;simp only[btGo,Bool.and_eq_true] at hB;obtain⟨⟨⟨hready,hwl⟩,hfree⟩,hB'⟩:=hB;cases hi:l.toArray[i]? with
    | none=>rw[hi] at hwl;cases hwl
    | some o=>
    rw[hi] at hwl;have hwl':wless o.op=true:=hwl;simp only[WBT,list_get hi] at h;obtain⟨hbi,h⟩:=h;have hready':i∈Region.ready md l.toArray listed:=by simpa using hready
    have next:∀ {st':St} {a':Act},WBT P F (l.toArray.toList.map (·.dst)) l own0 W b t st' k→Rel F R0 w0 st' a' w→wpAnyT P md l.toArray Q T W m b (listed.setIfInBounds i true) a' w:=fun h' hr'=>
      (wbt_sound hpan hsel own0 hT t b true m _ _ _ _ hB' h' hr' hk).1 rfl
    have fixed:∃ v,Fixed P l.toArray (fun _=>True) o v a∧wpAnyT P md l.toArray Q T W m b (listed.setIfInBounds i true) (a.put o.dst v) w:=by
      rcases wo_cases h hr with ⟨hw,st1,⟨ob,R,hr1⟩,hd,hs⟩|⟨hw,st1,⟨ob,R,hr1⟩,hd,hs⟩
      · obtain⟨s,hs,hv⟩:=stepO_plain (.inl hwl') hs
        obtain⟨hok,hy,hall⟩:=hv R _ a w hr1.env hr1.own;exact⟨s.den,.inl ⟨hw,fun w' hw'=>hall hwl' w' o rfl⟩,next hs ⟨ob,R,hr1.put (Qr hd) hok⟩⟩
      · exact⟨undef,.inr ⟨hw,rfl⟩,next hs ⟨ob,R,hr1.put (s:=.v undef) (Qr hd) trivial⟩⟩
    obtain⟨v,hf,hn⟩:=fixed;exact wpAnyT_wless hpan hi (Region.noSelect_spec hsel) m b listed a w (fun h9=>⟨(hbi h9).1,hT _ _ _ hr (hbi h9).2⟩) (fun j oj hj hne hun hno=>Region.free_spec hi hfree j oj hj hne hun hno) hready' hf hn
  | .alt i t r,b,top,0,listed,st,a,w,hB,h,hr,hk=>by simp [btGo] at hB
  | .one i t,b,top,m+1,listed,st,a,w,hB,h,hr,hk=>by
    refine⟨fun _=>?_,fun j hj=>by cases hj⟩;simp only[btGo,Bool.and_eq_true,beq_iff_eq] at hB;obtain⟨⟨hone,his⟩,hB'⟩:=hB;obtain⟨o,hi⟩:=Option.isSome_iff_exists.1 his;refine⟨fun h0=>(by rw[hone] at h0;cases h0),fun j hj=>?_⟩;rw[hone] at hj;obtain rfl:j=i:=by simpa using hj
    simp only[WBT,list_get hi] at h;exact tree_one hpan hi h hr fun st' a' w' h' hr'=>⟨fun hWj=>hT _ _ _ hr' (h'.1 hWj),(wbt_sound hpan hsel own0 hT t _ true m _ _ _ _ hB' h'.2 hr' hk).1 rfl⟩
  | .alt i t r,b,top,m+1,listed,st,a,w,hB,h,hr,hk=>by
    simp only[btGo,Bool.and_eq_true] at hB;obtain⟨⟨⟨⟨hcov,hne⟩,his⟩,hB1⟩,hB2⟩:=hB;obtain⟨h1,h2⟩:=h;obtain⟨o,hi⟩:=Option.isSome_iff_exists.1 his;rw[list_get hi] at h1
    have heads:∀ j∈(BT.alt i t r).heads,∃ m',m+1=m'+1∧wpOp P l.toArray Q j (fun a' w'=>((b && W j)=true→T w')∧wpAnyT P md l.toArray Q T W m' (b && W j) (listed.setIfInBounds j true) a' w') a w:=by
      intro j hj;rcases List.mem_cons.1 hj with rfl|hj
      · exact⟨m,rfl,tree_one hpan hi h1 hr fun st' a' w' h' hr'=>⟨fun hWj=>hT _ _ _ hr' (h'.1 hWj),(wbt_sound hpan hsel own0 hT t _ true m _ _ _ _ hB1 h'.2 hr' hk).1 rfl⟩⟩
      · exact (wbt_sound hpan hsel own0 hT r b false (m+1) listed st a w hB2 h2 hr hk).2 j hj
    refine⟨fun ht=>?_,heads⟩;subst ht;refine⟨fun h0=>(by rw[h0] at hne;simp at hne),fun j hj=>?_⟩
    have hj':j∈(BT.alt i t r).heads:=by
      have hcov':∀ x∈Region.ready md l.toArray listed,x=i∨x∈r.heads:=by simpa using hcov
      simpa [BT.heads] using hcov' j hj
    obtain⟨m',hm,hw⟩:=heads j hj';obtain rfl:m'=m:=by omega
    exact hw
theorem wo_casesR {o:Oper} {rest:List Oper} {st:St} {a:Act} {w:World} (h:WO P F (l.toArray.toList.map (·.dst)) (o :: rest) st k) {ob:Nat} {R:Nat→Prop} (hrr:RelR F R0 w0 ob R st a w) :
    (Region.wanted o (yielded l.toArray a.tmps)=true∧∃ st1,RelR F R0 w0 ob R st1 a w∧st1.own=st.own∧QO st1 o.dst∧stepO P F st1 o.dst o.op fun st'=>WO P F (l.toArray.toList.map (·.dst)) rest st' k) ∨
    (Region.wanted o (yielded l.toArray a.tmps)=false∧∃ st1,RelR F R0 w0 ob R st1 a w∧st1.own=st.own∧QO st1 o.dst∧WO P F (l.toArray.toList.map (·.dst)) rest (st1.put o.dst (.v undef)) k):=by
  unfold WO at h;split at h
  · rename_i hg
    exact .inl ⟨by simp [Region.wanted,hg],st,hrr,rfl,h.1,h.2⟩
  · rename_i j want hg
    split at h
    · exact h.elim
    · rename_i t hj
      split at h
      · rename_i hl
        have hy:=QM (tmps:=a.tmps) hj (hrr.env t _ hl).1;split at h
        · rename_i hw
          subst hw;exact .inl ⟨by simp [Region.wanted,hg,hy],st,hrr,rfl,h.1,h.2⟩
        · rename_i hw
          have hwf:want=false:=by simpa using hw
          subst hwf;exact .inr ⟨by simp [Region.wanted,hg,hy],st,hrr,rfl,h.1,h.2⟩
      · rename_i hl
        have hy:=QM (tmps:=a.tmps) hj (hrr.env t _ hl).1;split at h
        · rename_i hw
          subst hw;exact .inl ⟨by simp [Region.wanted,hg,hy],st,hrr,rfl,h.1,h.2⟩
        · rename_i hw
          have hwf:want=true:=by simpa using hw
          subst hwf;exact .inr ⟨by simp [Region.wanted,hg,hy],st,hrr,rfl,h.1,h.2⟩
      · rename_i vs hl
        have hy:yielded l.toArray a.tmps j=none:=yielded_none hj (hrr.env t _ hl).1;exact .inr ⟨by simp [Region.wanted,hg,hy],st,hrr,rfl,h.1,h.2⟩
      · rename_i x hl
        obtain⟨_,ht,hf⟩:=h;have hy:=QM (tmps:=a.tmps) hj (hrr.env t _ hl).1;cases x with
        | true=>
          have h:=ht rfl;have hr':=hrr.know (s':=.tt) hl rfl (fun _=>trivial);split at h
          · rename_i hw
            subst hw;exact .inl ⟨by simp [Region.wanted,hg,hy],_,hr',rfl,h.1,h.2⟩
          · rename_i hw
            have hwf:want=false:=by simpa using hw
            subst hwf;exact .inr ⟨by simp [Region.wanted,hg,hy],_,hr',rfl,h.1,h.2⟩
        | false=>
          have h:=hf rfl;have hr':=hrr.know (s':=.ff) hl rfl (fun _=>trivial);split at h
          · rename_i hw
            subst hw;exact .inl ⟨by simp [Region.wanted,hg,hy],_,hr',rfl,h.1,h.2⟩
          · rename_i hw
            have hwf:want=true:=by simpa using hw
            subst hwf;exact .inr ⟨by simp [Region.wanted,hg,hy],_,hr',rfl,h.1,h.2⟩
      · exact h.elim
theorem RelR.rebase {R:Nat→Prop} {st:St} {a:Act} {w:World} {ob:Nat} (h:RelR F R0 w0 ob R st a w):RelR F R ⟨w,fun b=>∃ (i:Nat) (o:Own),st.own[i]? = some o∧o.blk=some b⟩ ob R st a w:=
  ⟨h.defers,h.env,h.size,h.own,h.dist,Evo.refl _ _,h.inv,h.obM,fun i o ho b hb=>.inr ⟨i,o,ho,hb⟩,h.obw,fun b hb=>⟨(h.rr b hb).1,(h.rr b hb).2.1,.inl hb⟩,fun _ h=>h⟩
theorem RelR.unbase {R:Nat→Prop} {st:St} {a:Act} {w:World} {ob:Nat} (h:RelR F R0 w0 ob R st a w) {st':St} {a':Act} {w':World} (h':Rel F R ⟨w,fun b=>∃ (i:Nat) (o:Own),st.own[i]? = some o∧o.blk=some b⟩ st' a' w'):Rel F R0 w0 st' a' w':=by
  obtain⟨ob',R',hr⟩:=h';have hG:∀ b,(∃ (i:Nat) (o:Own),st.own[i]? = some o∧o.blk=some b)→w0.w.heap.size≤b∨w0.G b:=fun b ⟨i,o,ho,hb⟩=>h.gb i o ho b hb;have hs:=h.evo.size;refine⟨ob',R',hr.defers,hr.env,hr.size,hr.own,hr.dist,?_,hr.inv,hr.obM,fun i o ho b hb=>?_,hr.obw,fun b hb=>?_,fun b hb=>hr.r0 b (h.r0 b hb)⟩
  · refine⟨hr.evo.os.trans h.evo.os,hr.evo.tape.trans h.evo.tape,hr.evo.output.trans h.evo.output,Nat.le_trans h.evo.size hr.evo.size,fun b hb hm=>(hr.evo.block b (Nat.lt_of_lt_of_le hb h.evo.size) (fun hx=>?_)).trans (h.evo.block b hb hm)⟩
    rcases hx with hx|hx
    · exact hm (.inl hx)
    · rcases hG b hx with h9|h9
      · omega
      · exact hm (.inr h9)
  · rcases hr.gb i o ho b hb with h9|h9
    · have h9':w.heap.size≤b:=h9
      exact .inl (by omega)
    · exact hG b h9
  · obtain⟨g1,g2,g3⟩:=hr.rr b hb
    refine⟨g1,g2,?_⟩;rcases g3 with g3|g3|g3
    · exact (h.rr b g3).2.2
    · have g3':w.heap.size≤b:=g3
      exact .inr (.inl (by omega))
    · rcases hG b g3 with h9|h9
      · exact .inr (.inl h9)
      · exact .inr (.inr h9)
def Kept (own0:List Own) (R:Nat→Prop) (w w':World):Prop:=(∀ b,R b→w'.heap[b]? = w.heap[b]?)∧∃ (ob:Nat) (R':Nat→Prop),(∀ b,R b→R' b)∧OwnsOk R' ob own0 w'
theorem pre_sound (hpan:∀ c a w,¬ Q (.panic c) a w) (hsel:Region.noSelect l.toArray=true) (own0:List Own) {ob:Nat} {R:Nat→Prop} (bt:BT) (m:Nat) {w:World} (hkept:Kept own0 R w w) (hT:∀ st' a' w',Rel F R0 w0 st' a' w'→st'.own.take own0.length=own0→Kept own0 R w w'):∀ (X:List Nat) (listed:Array Bool) (st:St) (a:Act),PreP md l.toArray bt m W X listed →
    WO P F (l.toArray.toList.map (·.dst)) (X.map fun i=>l.getD i default) st (fun st2=>WBT P F (l.toArray.toList.map (·.dst)) l own0 W true bt st2 k)→st.own=own0→RelR F R0 w0 ob R st a w →
    (∀ st' a' w',k st'→Rel F R0 w0 st' a' w'→Q .normal a' w')→wpAnyT P md l.toArray Q (Kept own0 R w) W (X.length+m) true listed a w
  | [],listed,st,a,hB,h,ho,hr,hk=>by
    simp only[List.length_nil,Nat.zero_add];exact (wbt_sound hpan hsel own0 hT bt true true m listed st a w hB h ⟨ob,R,hr⟩ hk).1 rfl
  | i :: X,listed,st,a,hB,h,ho,hr,hk=>by
    obtain⟨hready,hfree,hWi,⟨o,hi,hkind⟩,hB'⟩:=hB;simp only[List.map_cons,list_get hi] at h
    have next:∀ {st':St} {a':Act},WO P F (l.toArray.toList.map (·.dst)) (X.map fun i=>l.getD i default) st' (fun st2=>WBT P F (l.toArray.toList.map (·.dst)) l own0 W true bt st2 k)→st'.own=own0→RelR F R0 w0 ob R st' a' w→wpAnyT P md l.toArray Q (Kept own0 R w) W (X.length+m) true (listed.setIfInBounds i true) a' w:=fun h' ho' hr'=>
      pre_sound hpan hsel own0 bt m hkept hT X _ _ _ hB' h' ho' hr' hk
    have hput:∀ (st1:St) (s:SV),(st1.put o.dst s).own=st1.own:=fun st1 s=>by cases o.dst<;>rfl
    have fixed:∀ (C:World→Prop),(wless o.op=true∨loadOp o.op=true∧∀ w',C w'→Kept own0 R w w')→∃ v,Fixed P l.toArray C o v a∧wpAnyT P md l.toArray Q (Kept own0 R w) W (X.length+m) true (listed.setIfInBounds i true) (a.put o.dst v) w:=by
      intro C hop;rcases wo_casesR h hr with ⟨hw,st1,hr1,ho1,hd,hs⟩|⟨hw,st1,hr1,ho1,hd,hs⟩
      · obtain⟨s,hs,hv⟩:=stepO_plain (hop.imp id (·.1)) hs
        obtain⟨hok,hy,hall⟩:=hv R _ a w hr1.env hr1.own;refine⟨s.den,.inl ⟨hw,fun w' hw'=>?_⟩,next hs ((hput st1 s).trans (ho1.trans ho)) (hr1.put (Qr hd) hok)⟩;rcases hop with hop|⟨_,hop⟩
        · exact hall hop w' o rfl
        · obtain⟨g1,ob',R',g2,g3⟩:=hop w' hw'
          have he':EnvOk R' st1.env a w':=fun t s ht=>⟨(hr1.env t s ht).1,Qx g2 g1 s (hr1.env t s ht).2⟩;have ho':OwnsOk R' ob' st1.own w':=by rw[ho1,ho];exact g3
          exact (hv R' ob' a w' he' ho').2.1 o rfl
      · exact⟨undef,.inr ⟨hw,rfl⟩,next hs ((hput st1 _).trans (ho1.trans ho)) (hr1.put (s:=.v undef) (Qr hd) trivial)⟩
    have hap:∀ j oj,l.toArray[j]? = some oj→j≠i→listed.getD j true=false→(∀ e∈oj.after,Region.binds md e=true→e.on≠i)→o.apart l.toArray oj=true:=fun j oj hj hne hun hno=>Region.free_spec hi hfree j oj hj hne hun hno
    have fin:wpAnyT P md l.toArray Q (Kept own0 R w) W ((X.length+m)+1) true listed a w:=by
      rcases hkind with hwl|⟨hlo,Bl,hb1,hb2,hb3⟩
      · obtain⟨v,hf,hn⟩:=fixed (fun _=>True) (.inl hwl)
        exact wpAnyT_wless hpan hi (Region.noSelect_spec hsel) (X.length+m) true listed a w (fun _=>⟨hWi,hkept⟩) hap hready hf hn
      · obtain⟨v,hf,hn⟩:=fixed (Kept own0 R w) (.inr ⟨hlo,fun _ h=>h⟩)
        exact wpAnyT_first Bl hpan hi (Region.noSelect_spec hsel) hWi hb1 (X.length+m) listed a w hkept hb2 (fun j oj hj hne hun hno=>⟨hap j oj hj hne hun hno,fun hnb=>by
          rcases hb3 j (Array.getElem?_eq_some_iff.1 hj).1 with h9|h9|h9|h9
          · exact absurd h9 hne
          · rw[hun] at h9;cases h9
          · exact absurd (hnb.symm.trans h9) Bool.false_ne_true
          · exact h9⟩) hready hf hn
    rwa [List.length_cons,Nat.add_right_comm]
theorem keep_sound (hpan:∀ c a w,¬ Q (.panic c) a w) (hsel:Region.noSelect l.toArray=true) (X ws:List Nat) (bt:BT) (m:Nat) (listed:Array Bool) (st:St) (a:Act) (w:World) (hB:PreP md l.toArray bt m (keepW X ws) X listed)
    (h:WO P F (l.toArray.toList.map (·.dst)) (X.map fun i=>l.getD i default) st (fun st2=>WBT P F (l.toArray.toList.map (·.dst)) l st.own (keepW X ws) true bt st2 k)) (hr:Rel F R0 w0 st a w) (hk:∀ st' a' w',k st'→Rel F R0 w0 st' a' w'→Q .normal a' w') :
    wpAny P md l.toArray Q (X.length+m) listed a w:=by
  obtain⟨ob,R,hr⟩:=hr;refine wpAny_of_T _ _ _ _ _ (pre_sound (W:=keepW X ws) hpan hsel st.own bt m ⟨fun _ _=>rfl,ob,R,fun _ h=>h,hr.own⟩ ?_ X listed st a hB h rfl hr.rebase (fun st' a' w' hk' hr'=>hk st' a' w' hk' (hr.unbase hr')));rintro st' a' w' ⟨ob',R',hr'⟩ ht
  have hlt:∀ b,R b→b<w.heap.size∧¬ (F.M b∨∃ (i:Nat) (o:Own),st.own[i]? = some o∧o.blk=some b):=fun b hb=>⟨(hr.rr b hb).1,fun hx=>by
    rcases hx with hx|⟨i,o,ho,hx⟩
    · exact (hr.rr b hb).2.1 hx
    · exact (Qw (hr.own i o ho) hx).2.2 hb⟩
  refine⟨fun b hb=>hr'.evo.block b (hlt b hb).1 (hlt b hb).2,ob',R',fun b hb=>hr'.r0 b hb,fun i o ho=>hr'.own i o ?_⟩;rw[← ht] at ho;rw[List.getElem?_take] at ho;split at ho
  · exact ho
  · cases ho
end
/-! ### A tree of orders -/
inductive OT where
  | done
  | keep (ls ws:List Nat) (bt:BT)
  | one (i:Nat) (t:OT)
  | alt (i:Nat) (t:OT) (rest:OT)
  | none
def OT.heads:OT→List Nat
  | .alt i _ r=>i :: r.heads
  | _=>[]
def treeGo (md:Region.Mode) (ops:Array Oper):OT→Bool→Nat→Array Bool→Bool
  | .done,_,m,listed=>m == 0 && (Region.ready md ops listed).isEmpty
  | .keep ls ws bt,_,m,listed=>decide (ls.length≤m) && keepGo md ops bt (m - ls.length) (keepW ls ws) ls listed
  | .one k t,_,m+1,listed=>(Region.ready md ops listed).contains k && (match ops[k]? with
      | some o=>if wless o.op=true then Region.free md ops listed k else if (loadOp o.op && (Region.free md ops listed k && loadsOnly md ops listed k))=true then true else Region.ready md ops listed == [k]
      | none=>false) && treeGo md ops t true m (listed.setIfInBounds k true)
  | .alt i t r,top,m+1,listed=>(!top || (Region.ready md ops listed).all fun j=>(i :: r.heads).contains j) && !(Region.ready md ops listed).isEmpty && (ops[i]?).isSome && treeGo md ops t true m (listed.setIfInBounds i true) && treeGo md ops r false (m+1) listed
  | .none,top,_,_=>!top
  | _,_,_,_=>false
def treeB (ops:Array Oper) (t:OT):Bool:=Region.noSelect ops && treeGo .any ops t true ops.size (Array.replicate ops.size false)
section
variable {P:Program} {F:Frm}
def WOT (P:Program) (F:Frm) (ds:List (Option Tmp)) (l:List Oper):OT→St→(St→Prop)→Prop
  | .done,st,k=>k st
  | .keep ls ws bt,st,k=>WO P F ds (ls.map fun i=>l.getD i default) st (fun st2=>WBT P F ds l st.own (keepW ls ws) true bt st2 k)
  | .one i t,st,k=>WO P F ds [l.getD i default] st (fun st'=>WOT P F ds l t st' k)
  | .alt i t r,st,k=>WO P F ds [l.getD i default] st (fun st'=>WOT P F ds l t st' k)∧WOT P F ds l r st k
  | .none,_,_=>True
variable {l:List Oper} {md:Region.Mode} {Q:Exit→Act→World→Prop} {k:St→Prop} {R0:Nat→Prop} {w0:Org}
theorem tree_sound (hpan:∀ c a w,¬ Q (.panic c) a w) (hsel:Region.noSelect l.toArray=true):∀ (t:OT) (top:Bool) (m:Nat) (listed:Array Bool) (st:St) (a:Act) (w:World),treeGo md l.toArray t top m listed=true →
    WOT P F (l.toArray.toList.map (·.dst)) l t st k→Rel F R0 w0 st a w→(∀ st' a' w',k st'→Rel F R0 w0 st' a' w'→Q .normal a' w') →
    (top=true→wpAny P md l.toArray Q m listed a w)∧(∀ j∈t.heads,∃ m',m=m'+1∧wpOp P l.toArray Q j (fun a' w'=>wpAny P md l.toArray Q m' (listed.setIfInBounds j true) a' w') a w)
  | .done,top,m,listed,st,a,w,hB,h,hr,hk=>by
    refine⟨fun _=>?_,fun j hj=>by cases hj⟩;simp only[treeGo,Bool.and_eq_true,beq_iff_eq] at hB;obtain⟨rfl,hB⟩:=hB;exact⟨by simpa using hB,hk _ _ _ h hr⟩
  | .keep ls ws bt,top,m,listed,st,a,w,hB,h,hr,hk=>by
    refine⟨fun _=>?_,fun j hj=>by cases hj⟩;simp only[treeGo,Bool.and_eq_true,decide_eq_true_eq] at hB;have:=keep_sound hpan hsel ls ws bt (m - ls.length) listed st a w (preP_of _ _ hB.2) h hr hk
    rwa [show ls.length+(m - ls.length)=m by omega] at this
  | .none,top,m,listed,st,a,w,hB,h,hr,hk=>by
    refine⟨fun ht=>?_,fun j hj=>by cases hj⟩;subst ht;simp [treeGo] at hB
  | .one i t,top,0,listed,st,a,w,hB,h,hr,hk=>by simp [treeGo] at hB
  | .alt i t r,top,0,listed,st,a,w,hB,h,hr,hk=>by simp [treeGo] at hB
  | .one i t,top,m+1,listed,st,a,w,hB,h,hr,hk=>by
    refine⟨fun _=>?_,fun j hj=>by cases hj⟩;simp only[treeGo,Bool.and_eq_true] at hB;obtain⟨⟨hready,hkind⟩,hB'⟩:=hB;cases hi:l.toArray[i]? with
    | none=>rw[hi] at hkind;cases hkind
    | some o=>
    rw[hi] at hkind;have hready':i∈Region.ready md l.toArray listed:=by simpa using hready
    simp only[WOT,list_get hi] at h;have hc:=wo_cases h hr
    have next:∀ {st':St} {a':Act} {w':World},WOT P F (l.toArray.toList.map (·.dst)) l t st' k→Rel F R0 w0 st' a' w'→wpAny P md l.toArray Q m (listed.setIfInBounds i true) a' w':=fun h' hr'=>
      (tree_sound hpan hsel t true m _ _ _ _ hB' h' hr' hk).1 rfl
    have fixed:∀ (C:World→Prop),C w→(wless o.op=true∨loadOp o.op=true∧∀ w',C w'→w'=w)→∃ v,Fixed P l.toArray C o v a∧wpAny P md l.toArray Q m (listed.setIfInBounds i true) (a.put o.dst v) w:=by
      intro C hCw hop;rcases hc with ⟨hw,st1,⟨ob,R,hr1⟩,hd,hs⟩|⟨hw,st1,⟨ob,R,hr1⟩,hd,hs⟩
      · obtain⟨s,hs,hv⟩:=stepO_plain (hop.imp id (·.1)) hs
        obtain⟨hok,hy,hall⟩:=hv R _ a w hr1.env hr1.own;refine⟨s.den,.inl ⟨hw,fun w' hw'=>?_⟩,next hs ⟨ob,R,hr1.put (Qr hd) hok⟩⟩;rcases hop with hop|⟨_,hop⟩
        · exact hall hop w' o rfl
        · rw[hop w' hw'];exact hy o rfl
      · exact⟨undef,.inr ⟨hw,rfl⟩,next hs ⟨ob,R,hr1.put (s:=.v undef) (Qr hd) trivial⟩⟩
    simp only at hkind;split at hkind
    · rename_i hwl
      obtain⟨v,hf,hn⟩:=fixed (fun _=>True) trivial (.inl hwl);exact wpAny_first hpan hi (Region.noSelect_spec hsel) m listed a w trivial (fun j oj hj hne hun hno=>⟨Region.free_spec hi hkind j oj hj hne hun hno,fun _ _ a K h=>Oper.wp_mono (fun _ _ h=>⟨trivial,h⟩) h⟩) hready' hf hn
    · split at hkind
      · rename_i hlo
        obtain⟨hlo,hkind⟩:=hlo;obtain⟨v,hf,hn⟩:=fixed (fun w'=>w'=w) rfl (.inr ⟨hlo,fun _ h=>h⟩);refine wpAny_first (C:=fun w'=>w'=w) hpan hi (Region.noSelect_spec hsel) m listed a w rfl (fun j oj hj hne hun hno=>⟨Region.free_spec hi hkind.1 j oj hj hne hun hno,fun w' hw' a K h=>?_⟩) hready' hf hn;obtain rfl:w'=w:=hw';have h1:=List.all_eq_true.1 hkind.2 j (List.mem_range.2 (Array.getElem?_eq_some_iff.1 hj).1);simp only[hj,Bool.or_eq_true,beq_iff_eq,hne,false_or,hun,Bool.false_eq_true] at h1;rcases h1 with h1|h1
        · obtain⟨e,he,hb⟩:=Array.any_eq_true'.1 h1
          simp only[Bool.and_eq_true,beq_iff_eq] at hb;exact absurd hb.2 (hno e he hb.1)
        · exact still_keeps h1 h
      · have hone:Region.ready md l.toArray listed=[i]:=by simpa using hkind
        refine⟨fun h0=>(by rw[hone] at h0;cases h0),fun j hj=>?_⟩;rw[hone] at hj;obtain rfl:j=i:=by simpa using hj
        exact tree_one hpan hi h hr fun st' a' w' h' hr'=>next h' hr'
  | .alt i t r,top,m+1,listed,st,a,w,hB,h,hr,hk=>by
    simp only[treeGo,Bool.and_eq_true] at hB;obtain⟨⟨⟨⟨hcov,hne⟩,his⟩,hB1⟩,hB2⟩:=hB;obtain⟨h1,h2⟩:=h;obtain⟨o,hi⟩:=Option.isSome_iff_exists.1 his;rw[list_get hi] at h1
    have heads:∀ j∈(OT.alt i t r).heads,∃ m',m+1=m'+1∧wpOp P l.toArray Q j (fun a' w'=>wpAny P md l.toArray Q m' (listed.setIfInBounds j true) a' w') a w:=by
      intro j hj;rcases List.mem_cons.1 hj with rfl|hj
      · exact⟨m,rfl,tree_one hpan hi h1 hr fun st' a' w' h' hr'=>(tree_sound hpan hsel t true m _ _ _ _ hB1 h' hr' hk).1 rfl⟩
      · exact (tree_sound hpan hsel r false (m+1) listed st a w hB2 h2 hr hk).2 j hj
    refine⟨fun ht=>?_,heads⟩;subst ht;refine⟨fun h0=>(by rw[h0] at hne;simp at hne),fun j hj=>?_⟩
    have hj':j∈(OT.alt i t r).heads:=by
      have hcov':∀ x∈Region.ready md l.toArray listed,x=i∨x∈r.heads:=by simpa using hcov
      simpa [OT.heads] using hcov' j hj
    obtain⟨m',hm,hw⟩:=heads j hj';obtain rfl:m'=m:=by omega
    exact hw
theorem Zd {K:Exit→St→Prop} {st:St} {id:Nat} {l:List Oper} (t:OT) (hm:P.follows .mixedOrders=true) (hB:treeB l.toArray t=true) (hpan:∀ c st,¬ K (.panic c) st)
    (h:∀ k:St→Prop,(∀ st',K .normal st'→k st')→WOT P F (l.map (·.dst)) l t st k):Sat P F (.region id l.toArray true) st K:=by
  rintro R0 w0 a w ⟨ob,R,hr⟩;simp only[treeB,Bool.and_eq_true] at hB;have hdrew:Grown w { w with drawn:=w.drawn+1 }:=⟨rfl,rfl,rfl,Nat.le_refl _,fun _ _ _=>rfl⟩;refine wp_region_any hm ?_
  have:=(tree_sound (P:=P) (F:=F) (l:=l) (Q:=fun e a' w'=>∃ st',K e st'∧Rel F R0 w0 st' a' w') (k:=K .normal) (fun c a w ⟨st',hk,_⟩=>hpan c st' hk) hB.1 t true _ _ st a { w with drawn:=w.drawn+1 } hB.2 (by simpa using h _ fun _ h=>h)
    ⟨ob,R,hr.grown hdrew⟩ (fun st' a' w' hk hr'=>⟨st',hk,hr'⟩)).1 rfl
  simpa using this
/-! ### Meeting up to the numbers of the call's own objects -/
def idSim:SV→SV→Prop
  | .os _ a len cap,.os _ a' len' cap'=>a=a'∧len=len'∧cap=cap'
  | .op _ b o,.op _ b' o'=>b=b'∧o=o'
  | _,_=>False
def envSim (env:List (Nat×SV)):List (Nat×SV)→Prop
  | []=>True
  | (t,s) :: l=>(look env t=some s∨∃ s',look env t=some s'∧idSim s' s)∧envSim env l
end
end Eng
end Go.Proofs.YtabgkfjfmjdfiaaGreatDoor

namespace Go.Proofs.YtabgkfjfmjdfiaaGreatDoor
namespace Eng
structure ContractN (F:Frm) (P:Program) (f:FuncId) (args:List SV) (post:Own→Prop):Prop where
  enters:∀ vs w,(callFunc f vs).run P w=.ok (.enter f vs) w
  calls:∀ (R:Nat→Prop) (w:World),F.Inv w→(∀ s∈args,s.ok R w)→(∀ b,R b→b<w.heap.size∧¬ F.M b) →
    Calls P f (args.map SV.den).toArray w fun e w'=>∃ (a:Option Addr) (ty len cap sz:Nat) (rd:Nat→Nat→SV) (R':Nat→Prop),e=.returned (.slice a len cap)∧post (.row a ty len cap sz rd)∧(∀ b,R b→R' b) ∧
      (∀ b,R' b→R b∨(w.heap.size≤b∧b<w'.heap.size))∧(Own.row a ty len cap sz rd).ok R' w.heap.size w'∧Evo F.M w w'∧F.Inv w'
theorem ContractN.mono {F:Frm} {P:Program} {f:FuncId} {args:List SV} {post post':Own→Prop} (h:ContractN F P f args post) (hp:∀ o,post o→post' o):ContractN F P f args post':=
  ⟨h.enters,fun R w h1 h2 h3=>(h.calls R w h1 h2 h3).mono fun e w' ⟨a,ty,len,cap,sz,rd,R',e1,e2,e3⟩=>⟨a,ty,len,cap,sz,rd,R',e1,hp _ e2,e3⟩⟩
def newRow (own:List Own) (post:Own→Prop):SV→Prop
  | .os id a len cap=>(match own[id]? with
    | some (.row a1 ty len1 cap1 sz rd)=>(a1=a∧len1=len∧cap1=cap)∧post (.row a1 ty len1 cap1 sz rd)
    | _=>False)
  | _=>False
section
variable {P:Program} {F:Frm} {st:St} {k:St→Prop} {dst:Option Tmp} {ds:List (Option Tmp)} {rest:List Oper}
variable {R0 R:Nat→Prop} {w0:Org} {w:World} {ob:Nat} {a:Act}
end
end Eng
end Go.Proofs.YtabgkfjfmjdfiaaGreatDoor

set_option linter.unusedSectionVars false
namespace Go.Proofs.YtabgkfjfmjdfiaaGreatDoor.Zn
open Go.RowKit
class Zone where
  G:Nat→Prop
  N:Nat
  up:∀ b,N≤b→G b
variable [Zone]
def ZOk (w:World) (ad:Option Addr) (n:Nat):Prop:=Zone.N≤w.heap.size∧(n=0∨∀ x,ad=some x→Zone.G x.block)
def Rd (k:IntKind) (w:World) (v:Value) (xs:List Int):Prop:=
  ∃ ad cap,v=.slice ad xs.length cap∧xs.length≤cap∧(cap≤maxLen∧ZOk w ad xs.length) ∧
    (xs.length=0∨∃ b off,ad=some ⟨b,off,none⟩∧b<w.heap.size∧∀ i,i<xs.length→w.cell? ⟨b,off+i,none⟩=some (.int k (xs.getD i 0)))
theorem Rd.zone {k:IntKind} {w:World} {v:Value} {xs:List Int} (h:Rd k w v xs):Zone.N≤w.heap.size:=by
  obtain⟨_,_,_,_,h,_⟩:=h;exact h.2.1
theorem Rd.nil (k:IntKind) (w:World) (hN:Zone.N≤w.heap.size):Rd k w (.slice none 0 0) []:=⟨none,0,rfl,by simp,⟨by simp [maxLen],hN,.inl rfl⟩,.inl rfl⟩
theorem Rd.below {k:IntKind} {w w':World} {v:Value} {xs:List Int} (h:Rd k w v xs) (hb:Below w.heap.size w w'):Rd k w' v xs:=by
  obtain⟨ad,cap,rfl,h1,h2,h3⟩:=h;refine⟨ad,cap,rfl,h1,⟨h2.1,Nat.le_trans h2.2.1 hb.size,h2.2.2⟩,?_⟩;rcases h3 with h3|⟨b,off,rfl,hlt,hc⟩
  · exact .inl h3
  · exact .inr ⟨b,off,rfl,Nat.lt_of_lt_of_le hlt hb.size,fun i hi=>(hb.cell (p:=⟨b,off+i,none⟩) hlt).trans (hc i hi)⟩
theorem Rd.take {k:IntKind} {w:World} {ad:Option Addr} {cap:Nat} {xs:List Int} (h:Rd k w (.slice ad xs.length cap) xs) (n:Nat) (hn:n≤xs.length):Rd k w (.slice ad n cap) (xs.take n):=by
  obtain⟨ad',cap',e,h1,h2,h3⟩:=h;simp only[Value.slice.injEq] at e;obtain⟨rfl,_,rfl⟩:=e;have hl:(xs.take n).length=n:=by simp;omega
  refine⟨ad,cap,by rw[hl],by omega,⟨h2.1,h2.2.1,?_⟩,?_⟩
  · rcases h2.2.2 with h|h
    · exact .inl (by omega)
    · exact .inr h
  rw[hl];rcases h3 with h3|⟨b,off,rfl,hlt,hc⟩
  · exact .inl (by omega)
  · refine .inr ⟨b,off,rfl,hlt,fun i hi=>?_⟩
    rw[hc i (by omega)];simp [List.getD,hi]
def Own (k:IntKind) (e:TypeId) (B:Nat) (w:World) (g n:Nat) (xs:List Int):Prop:=
  w.ownsRow B e 1 (.slice (some ⟨g,0,none⟩) n n) n (xs.map (Value.int k))∧Zone.N≤B
section
variable {k:IntKind} {e:TypeId} {B:Nat} {w:World} {g n:Nat} {xs:List Int}
theorem Own.len (h:Own k e B w g n xs):xs.length=n:=by have:=h.1.1;simpa using this
theorem Own.lt (h:Own k e B w g n xs):B≤g∧g<w.heap.size:=World.ownsRow.lt h.1 g rfl
theorem Own.cell (h:Own k e B w g n xs) (i:Nat) (hi:i<n):w.cell? ⟨g,i,none⟩=some (.int k (xs.getD i 0)):=by
  have hl:=h.len;rw[World.ownsRow.cellAt h.1 i (by omega)];simp [List.getD,show i<xs.length by omega]
theorem Own.frozen (h:Own k e B w g n xs) (i:Nat):w.frozen? ⟨g,i,none⟩=false:=World.ownsRow.frozenAt h.1 i
theorem Own.store (h:Own k e B w g n xs) (i:Nat) (v:Int):Own k e B (w.setCell ⟨g,i,none⟩ (.int k v)) g n (xs.set i v):=by
  have:=(World.ownsRow.stored h.1 i (.int k v)).1;unfold Own;exact⟨by rwa [List.map_set],h.2⟩
theorem Own.below {w':World} (h:Own k e B w g n xs) (hb:Below w.heap.size w w'):Own k e B w' g n xs:=
  ⟨World.ownsRow.kept h.1 ⟨hb.os,hb.tape,hb.output,hb.size,fun i hi _=>hb.block i hi⟩ (row:=none) (.inr (by simp [Value.ownBlock])),h.2⟩
theorem Own.cap (h:Own k e B w g n xs):n≤maxLen:=by
  rcases h.1.2 with ⟨h,_⟩|⟨_,cap,_,h,_,_,hn,hc,_⟩
  · cases h
  · simp only[Value.slice.injEq] at h;omega
theorem Own.rd (h:Own k e B w g n xs):Rd k w (.slice (some ⟨g,0,none⟩) n n) xs:=by
  have hl:=h.len;refine⟨some ⟨g,0,none⟩,n,by rw[hl],by omega,⟨h.cap,by have:=h.lt;have:=h.2;omega,.inr fun y hy=>by cases hy;exact Zone.up _ (Nat.le_trans h.2 h.lt.1)⟩,?_⟩;by_cases h0:n=0
  · exact .inl (by omega)
  · exact .inr ⟨g,0,rfl,h.lt.2,fun i hi=>by rw[Nat.zero_add];exact h.cell i (by omega)⟩
end
omit [Zone] in
theorem Below.drewN' (w:World) (n:Nat):Below w.heap.size w (w.drewN n):=⟨rfl,rfl,rfl,Nat.le_refl _,fun _ _=>rfl⟩
/-! bits at int -/
omit [Zone] in
theorem ofInt_i64 (a:Nat) (ha:a<9223372036854775808):(BitVec.ofInt 64 (a:Int)).toNat=a:=by
  rw[BitVec.ofInt_natCast,BitVec.toNat_ofNat];exact Nat.mod_eq_of_lt (by omega)
omit [Zone] in
theorem and_limb (n:Int):bits .and .i64 n 1073741823=n % 1073741824:=by
  show IntKind.i64.wrap ((BitVec.ofInt 64 n &&& BitVec.ofInt 64 1073741823).toNat:Int)=_
  have e:(BitVec.ofInt 64 n &&& BitVec.ofInt 64 1073741823).toNat=(n % 18446744073709551616).toNat % 1073741824:=by
    rw[BitVec.toNat_and,BitVec.toNat_ofInt];exact Nat.and_two_pow_sub_one_eq_mod _ 30
  rw[e,IntKind.wrap_i64];omega
omit [Zone] in
theorem or_limb (a b:Int) (ha:0≤a) (ha':a<8589934592) (hb:0≤b) (hb':b<1073741824):bits .or .i64 (a * 1073741824) b=a * 1073741824+b:=by
  obtain⟨x,rfl⟩:=Int.eq_ofNat_of_zero_le ha;obtain⟨y,rfl⟩:=Int.eq_ofNat_of_zero_le hb;show IntKind.i64.wrap ((BitVec.ofInt 64 ((x:Int) * 1073741824) ||| BitVec.ofInt 64 (y:Int)).toNat:Int)=_;have e1:((x:Int) * 1073741824)=((x * 1073741824:Nat):Int):=by simp
  rw[e1,BitVec.toNat_or,ofInt_i64 _ (by omega),ofInt_i64 _ (by omega)];have e2:x * 1073741824 ||| y=x * 1073741824+y:=nat_join 30 _ _ (by omega) (by omega)
  rw[e2,IntKind.wrap_i64];omega
end Go.Proofs.YtabgkfjfmjdfiaaGreatDoor.Zn

namespace Go.Proofs.YtabgkfjfmjdfiaaGreatDoor.Lmb
def cmpI (x y:Int):Int:=if x<y then -1 else if y<x then 1 else 0
theorem ZA {x y:Int} (h:x<y):cmpI x y=-1:=by unfold cmpI;rw[if_pos h]
theorem cmpI_gt {x y:Int} (h:y<x):cmpI x y=1:=by unfold cmpI;rw[if_neg (by omega),if_pos h]
theorem cmpI_eq {x y:Int} (h:x=y):cmpI x y=0:=by unfold cmpI;rw[if_neg (by omega),if_neg (by omega)]
theorem val_cmp_limb {xs ys:List Int} {m:Nat} (hx:Qv xs) (hy:Qv ys) (hmx:m<xs.length) (hmy:m<ys.length) (hd:xs.drop (m+1)=ys.drop (m+1)) (h:xs.getD m 0<ys.getD m 0):val xs<val ys:=by
  rw[QX xs m (by omega),QX ys m (by omega),QK xs m hmx,QK ys m hmy,hd];have h1:=val_lt (Qy hx m);have h2:=Qp (Qy hy m);rw[List.length_take,Nat.min_eq_left (by omega)] at h1;have hp:=Zu m;generalize val (ys.drop (m+1))=t at *;generalize xs.getD m 0=x at *;generalize ys.getD m 0=y at *;generalize val (xs.take m)=u at *;generalize val (ys.take m)=v at *;generalize pw m=p at *;have h3:p * (x+1)≤p * y:=Int.mul_le_mul_of_nonneg_left (by omega) (by omega);rw[Int.mul_add,Int.mul_add];rw[Int.mul_add] at h3;omega
theorem cmp_limb {xs ys:List Int} {m:Nat} (hx:Qv xs) (hy:Qv ys) (hmx:m<xs.length) (hmy:m<ys.length) (hd:xs.drop (m+1)=ys.drop (m+1)) (h:xs.getD m 0≠ys.getD m 0):cmpI (xs.getD m 0) (ys.getD m 0)=cmpI (val xs) (val ys):=by
  rcases Int.lt_or_gt_of_ne h with h|h
  · rw[ZA h,ZA (val_cmp_limb hx hy hmx hmy hd h)]
  · rw[cmpI_gt h,cmpI_gt (val_cmp_limb hy hx hmy hmx hd.symm h)]
theorem drop_eq_step {xs ys:List Int} {m:Nat} (hmx:m<xs.length) (hmy:m<ys.length) (hd:xs.drop (m+1)=ys.drop (m+1)) (h:xs.getD m 0=ys.getD m 0):xs.drop m=ys.drop m:=by
  rw[List.drop_eq_getElem_cons hmx,List.drop_eq_getElem_cons hmy,hd];simp only[List.getD,List.getElem?_eq_getElem hmx,List.getElem?_eq_getElem hmy,Option.getD_some] at h;rw[h]
theorem cmp_len {xs ys:List Int} {m n:Nat} (h:Dig xs m) (k:Dig ys n) (hne:xs.length≠ys.length):cmpI xs.length ys.length=cmpI m n:=by
  rcases Nat.lt_or_gt_of_ne hne with hl|hl
  · have:=h.lt_of_len k hl
    rw[ZA (by omega),ZA (by omega)]
  · have:=k.lt_of_len h hl
    rw[cmpI_gt (by omega),cmpI_gt (by omega)]
structure SubInv (xs ys os:List Int) (i:Nat) (c:Int):Prop where
  len:os.length=xs.length
  limbs:Qv os
  c0:-1≤c
  c1:c≤0
  val:val os+pw i * c=val (xs.take i) - val (ys.take i)
  zero:∀ t,i≤t→os.getD t 0=0
theorem SubInv.start (xs ys:List Int):SubInv xs ys (List.replicate xs.length 0) 0 0:=
  ⟨by simp,QL _,by omega,by omega,by simp [val_replicate,QE],fun t _=>by
    simp only[List.getD,List.getElem?_replicate];split<;>rfl⟩
theorem SubInv.step {xs ys os:List Int} {i:Nat} {c:Int} (h:SubInv xs ys os i c) (hx:Qv xs) (hy:Qv ys) (hi:i<xs.length) :
    SubInv xs ys (os.set i ((xs.getD i 0 - ys.getD i 0+c) % 1073741824)) (i+1) ((xs.getD i 0 - ys.getD i 0+c) / 1073741824):=by
  have bx:=Qh hx i;have bY:=Qh hy i;have hl:=h.len;have h0:=h.c0;have h1:=h.c1;have hv:=h.val;have hs:=val_set os i (by omega) ((xs.getD i 0 - ys.getD i 0+c) % 1073741824);rw[h.zero i (Nat.le_refl _),Int.sub_zero] at hs;have tx:=QS xs i;have ty:=QS ys i;generalize xs.getD i 0=x at *;generalize ys.getD i 0=y at *;refine⟨by simpa using hl,QP h.limbs _ _ (by omega),by omega,by omega,?_,fun t hlt=>?_⟩
  · rw[hs,tx,ty,QF]
    have e3:1073741824 * ((x - y+c) / 1073741824)+(x - y+c) % 1073741824=x - y+c:=Int.mul_ediv_add_emod _ _;have e4:pw i * (1073741824 * ((x - y+c) / 1073741824)+(x - y+c) % 1073741824)=pw i * (x - y+c):=by rw[e3]
    rw[Int.mul_add,Int.mul_add,Int.mul_sub,Int.mul_left_comm] at e4;rw[Int.mul_assoc];omega
  · rw[QU _ _ _ (by omega),if_neg (by omega)]
    exact h.zero t (by omega)
theorem SubInv.done {xs ys os:List Int} {c:Int} {a b:Nat} (h:SubInv xs ys os xs.length c) (hx:Lmb.val xs=a) (hy:Lmb.val ys=b) (hb:b≤a) (hl:ys.length≤xs.length):Dig (trim os) (a - b):=by
  have h0:=h.c0;have h1:=h.c1;have hv:=h.val;have ho:=val_lt h.limbs;have hp:=Zu xs.length;rw[h.len] at ho;rw[List.take_of_length_le (Nat.le_refl _),List.take_of_length_le hl,hx,hy] at hv
  have hc:c=0:=by
    rcases (show c=0∨c=-1 by omega) with hc|hc
    · exact hc
    · rw[hc] at hv
      have:=Qp h.limbs;omega
  rw[hc] at hv;have hd:=Ze h.limbs;have e:(Lmb.val os).toNat=a - b:=by omega
  rwa [e] at hd
end Go.Proofs.YtabgkfjfmjdfiaaGreatDoor.Lmb

namespace Go.Proofs.YtabgkfjfmjdfiaaGreatDoor.Lmb
/-! ### the guess of one limb of the quotient -/
structure GuessOk (high next third lead second g:Int):Prop where
  g0:0≤g
  g1:g<1073741824
  le:g * (lead * 1073741824+second)≤(high * 1073741824+next) * 1073741824+third
  most:∀ t,0≤t→t<1073741824→t * (lead * 1073741824+second)≤(high * 1073741824+next) * 1073741824+third→t≤g
structure GuessInv (high next third lead second q r:Int):Prop where
  q0:0≤q
  r0:0≤r
  sum:q * lead+r=high * 1073741824+next
  most:∀ t,0≤t→t<1073741824→t * (lead * 1073741824+second)≤(high * 1073741824+next) * 1073741824+third→t≤q
theorem expand (q lead second:Int):q * (lead * 1073741824+second)=(q * lead) * 1073741824+q * second:=by
  rw[Int.mul_add,Int.mul_assoc]
theorem GuessInv.start {high next third lead second:Int} (hh:0≤high) (hn:0≤next) (ht:third<1073741824) (hl:1≤lead) (hs:0≤second) :
    GuessInv high next third lead second ((high * 1073741824+next) / lead) ((high * 1073741824+next) % lead):=by
  have hv:0≤high * 1073741824+next:=by omega
  refine⟨Int.ediv_nonneg hv (by omega),Int.emod_nonneg _ (by omega),?_,?_⟩
  · rw[Int.mul_comm];exact Int.mul_ediv_add_emod _ _
  · intro t t0 _ h
    rw[expand] at h;have hts:0≤t * second:=Int.mul_nonneg t0 hs;generalize high * 1073741824+next=v at *
    have h1:t * lead≤v:=by omega
    exact (Int.le_ediv_iff_mul_le (by omega)).2 h1
theorem GuessInv.step {high next third lead second q r:Int} (h:GuessInv high next third lead second q r) (hr:r<1073741824) (ht:0≤third) (hc:1073741824≤q∨r * 1073741824+third<q * second) (hl:1≤lead) :
    GuessInv high next third lead second (q - 1) (r+lead):=by
  have h0:=h.q0;have h1:=h.r0;have hsum:=h.sum
  have hq:1≤q:=by
    rcases hc with hc|hc
    · omega
    · rcases (show q=0∨1≤q by omega) with rfl|hq
      · rw[Int.zero_mul] at hc;omega
      · exact hq
  refine⟨by omega,by omega,by rw[Int.sub_mul];omega,?_⟩;intro t t0 t1 hle;have hle':=h.most t t0 t1 hle;rcases (show t=q∨t≤q - 1 by omega) with rfl|ht'
  · exfalso
    rcases hc with hc|hc
    · omega
    · rw[expand] at hle
      generalize t * second=a at *;generalize t * lead=b at *;omega
  · exact ht'
theorem GuessInv.done {high next third lead second q r:Int} (h:GuessInv high next third lead second q r) (hh:high≤lead) (hn:next<1073741824) (ht:0≤third) (hs:0≤second) (hs1:second<1073741824) (hl:1≤lead)
    (hc:r<1073741824→q<1073741824∧q * second≤r * 1073741824+third):GuessOk high next third lead second q:=by
  have h0:=h.q0;have h1:=h.r0;have hsum:=h.sum
  have hq:q<1073741824:=by
    rcases Int.lt_or_le r 1073741824 with hr|hr
    · exact (hc hr).1
    · rcases Int.lt_or_le q 1073741824 with hq|hq
      · exact hq
      · exfalso
        have h2:1073741824 * lead≤q * lead:=Int.mul_le_mul_of_nonneg_right hq (by omega);omega
  refine⟨h0,hq,?_,h.most⟩;rw[expand]
  have h3:q * second≤r * 1073741824+third:=by
    rcases Int.lt_or_le r 1073741824 with hr|hr
    · exact (hc hr).2
    · have h4:q * second≤1073741823 * second:=Int.mul_le_mul_of_nonneg_right (by omega) hs
      omega
  generalize q * second=a at *;generalize q * lead=b at *;omega
theorem GuessOk.true {high next third lead second g:Int} (h:GuessOk high next third lead second g) {D V d v P:Int} (hP:0<P)
    (hD:D=d+P * ((high * 1073741824+next) * 1073741824+third)) (hd0:0≤d) (hd1:d<P) (hV:V=v+P * (lead * 1073741824+second)) (hv0:0≤v) (hv1:v<P) (hl:1≤lead) (hs:0≤second)
    (hDV:D<1073741824 * V) (hD0:0≤D):D<(g+1) * V∧g * V≤D+V:=by
  have g0:=h.g0;have g1:=h.g1;have hle:=h.le;have hmost:=h.most;generalize (high * 1073741824+next) * 1073741824+third=U3 at *;have hV2:1073741824≤lead * 1073741824+second:=by omega
  generalize lead * 1073741824+second=V2 at *;have hPV:P * 1073741824≤P * V2:=Int.mul_le_mul_of_nonneg_left hV2 (by omega);have hVpos:0<V:=by omega
  constructor
  · -- the true quotient is at most g
    have t0:0≤D / V:=Int.ediv_nonneg hD0 (by omega);have t1:D / V<1073741824:=Int.ediv_lt_of_lt_mul hVpos hDV;have e:=Int.mul_ediv_add_emod D V;have m1:=Int.emod_lt_of_pos D hVpos;have m0:=Int.emod_nonneg D (show V≠0 by omega);generalize D / V=t at *;generalize D % V=m at *
    have htg:t≤g:=by
      refine hmost t t0 t1 ?_;have hv:0≤t * v:=Int.mul_nonneg t0 hv0;have e2:V * t=t * v+P * (t * V2):=by rw[hV,Int.add_mul,Int.mul_comm v t,Int.mul_assoc,Int.mul_comm V2 t]
      have h5:P * (t * V2)<P * (U3+1):=by rw[Int.mul_add];omega
      have:=Int.lt_of_mul_lt_mul_left h5 (Int.le_of_lt hP);omega
    have h6:t * V≤g * V:=Int.mul_le_mul_of_nonneg_right htg (by omega);rw[Int.add_mul];rw[Int.mul_comm V t] at e;omega
  · have e2:g * V=g * v+P * (g * V2):=by rw[hV,Int.mul_add,Int.mul_left_comm]
    have h5:P * (g * V2)≤P * U3:=Int.mul_le_mul_of_nonneg_left hle (by omega);have h6:g * v≤1073741823 * v:=Int.mul_le_mul_of_nonneg_right (by omega) hv0;omega
end Go.Proofs.YtabgkfjfmjdfiaaGreatDoor.Lmb

namespace Go.Proofs.YtabgkfjfmjdfiaaGreatDoor.Lmb
structure SubMul (us u v:List Int) (g:Int) (j i:Nat) (c:Int):Prop where
  len:us.length=u.length
  limbs:Qv us
  c0:-1073741824<c
  c1:c≤0
  val:val us+pw (j+i) * c=val u - pw j * (g * val (v.take i))
  rest:∀ t,j+i≤t→us.getD t 0=u.getD t 0
theorem SubMul.start {u:List Int} (hu:Qv u) (v:List Int) (g:Int) (j:Nat):SubMul u u v g j 0 0:=
  ⟨rfl,hu,by omega,by omega,by simp [QE],fun _ _=>rfl⟩
theorem SubMul.step {us u v:List Int} {g c:Int} {j i:Nat} (h:SubMul us u v g j i c) (hv:Qv v) (g0:0≤g) (g1:g<1073741824) (hi:i<v.length) (hj:j+i<u.length) :
    SubMul (us.set (j+i) ((us.getD (j+i) 0 - g * v.getD i 0+c) % 1073741824)) u v g j (i+1) ((us.getD (j+i) 0 - g * v.getD i 0+c) / 1073741824):=by
  have bv:=Qh hv i;have bo:=Qh h.limbs (j+i);have hp:=limb_prod ⟨g0,g1⟩ bv;have hl:=h.len;have h0:=h.c0;have h1:=h.c1;have hval:=h.val;have ht:=QR v i hi;have hs:=val_set us (j+i) (by omega) ((us.getD (j+i) 0 - g * v.getD i 0+c) % 1073741824);generalize hY:v.getD i 0=y at *;generalize hO:us.getD (j+i) 0=o at *;generalize hG:g * y=p at *;refine⟨by simpa using hl,QP h.limbs _ _ (by omega),by omega,by omega,?_,fun t hlt=>?_⟩
  · have e1:pw (j+(i+1))=1073741824 * pw (j+i):=by rw[← Nat.add_assoc,QF]
    have e2:pw j * (g * (pw i * y))=pw (j+i) * p:=by rw[pw_add,← hG];simp only[Int.mul_assoc,Int.mul_left_comm]
    rw[hs,ht,e1,Int.mul_add g,Int.mul_add (pw j),e2];have e3:1073741824 * ((o - p+c) / 1073741824)+(o - p+c) % 1073741824=o - p+c:=Int.mul_ediv_add_emod _ _;have e4:pw (j+i) * (1073741824 * ((o - p+c) / 1073741824)+(o - p+c) % 1073741824)=pw (j+i) * (o - p+c):=by rw[e3]
    rw[Int.mul_add,Int.mul_add,Int.mul_sub,Int.mul_left_comm] at e4;rw[Int.mul_sub,Int.mul_assoc];omega
  · rw[QU _ _ _ (by omega),if_neg (by omega)]
    exact h.rest t (by omega)
structure AddBack (ws us v:List Int) (j i:Nat) (c:Int):Prop where
  len:ws.length=us.length
  limbs:Qv ws
  c0:0≤c
  c1:c≤1
  val:val ws+pw (j+i) * c=val us+pw j * val (v.take i)
  rest:∀ t,j+i≤t→ws.getD t 0=us.getD t 0
theorem AddBack.start {us:List Int} (hu:Qv us) (v:List Int) (j:Nat):AddBack us us v j 0 0:=
  ⟨rfl,hu,by omega,by omega,by simp [QE],fun _ _=>rfl⟩
theorem AddBack.step {ws us v:List Int} {c:Int} {j i:Nat} (h:AddBack ws us v j i c) (hv:Qv v) (hi:i<v.length) (hj:j+i<us.length) :
    AddBack (ws.set (j+i) ((ws.getD (j+i) 0+v.getD i 0+c) % 1073741824)) us v j (i+1) ((ws.getD (j+i) 0+v.getD i 0+c) / 1073741824):=by
  have bv:=Qh hv i;have bo:=Qh h.limbs (j+i);have hl:=h.len;have h0:=h.c0;have h1:=h.c1;have hval:=h.val;have ht:=QR v i hi;have hs:=val_set ws (j+i) (by omega) ((ws.getD (j+i) 0+v.getD i 0+c) % 1073741824);generalize hY:v.getD i 0=y at *;generalize hO:ws.getD (j+i) 0=o at *;refine⟨by simpa using hl,QP h.limbs _ _ (by omega),by omega,by omega,?_,fun t hlt=>?_⟩
  · have e1:pw (j+(i+1))=1073741824 * pw (j+i):=by rw[← Nat.add_assoc,QF]
    have e2:pw j * (pw i * y)=pw (j+i) * y:=by rw[pw_add,Int.mul_assoc]
    rw[hs,ht,e1,Int.mul_add (pw j),e2];have e3:1073741824 * ((o+y+c) / 1073741824)+(o+y+c) % 1073741824=o+y+c:=Int.mul_ediv_add_emod _ _;have e4:pw (j+i) * (1073741824 * ((o+y+c) / 1073741824)+(o+y+c) % 1073741824)=pw (j+i) * (o+y+c):=by rw[e3]
    rw[Int.mul_add,Int.mul_add,Int.mul_add,Int.mul_left_comm] at e4;rw[Int.mul_sub,Int.mul_assoc];omega
  · rw[QU _ _ _ (by omega),if_neg (by omega)]
    exact h.rest t (by omega)
theorem zero_of_val {xs:List Int} (hl:Qv xs) (h:val xs=0):∀ t,xs.getD t 0=0:=by
  induction xs with
  | nil=>intro t;simp [List.getD]
  | cons x r ih=>
    rw[QB] at hl;have hn:=Qp hl.2;rw[Qz] at h;have hx:x=0:=by omega
    have hr:Lmb.val r=0:=by omega
    intro t;cases t with
    | zero=>rw[List.getD_cons_zero];exact hx
    | succ t=>rw[List.getD_cons_succ];exact ih hl.2 hr t
theorem val_drop_congr {xs ys:List Int} {k:Nat} (hl:xs.length=ys.length) (h:∀ t,k≤t→xs.getD t 0=ys.getD t 0):val (xs.drop k)=val (ys.drop k):=by
  have e:xs.drop k=ys.drop k:=by
    apply List.ext_getElem
    · simp [hl]
    · intro i h1 h2
      have:=h (k+i) (by omega);simp only[List.length_drop] at h1 h2;rw[List.getElem_drop,List.getElem_drop]
      simpa [List.getD,show k+i<xs.length by omega,show k+i<ys.length by omega] using this
  rw[e]
structure DivInv (A V:Int) (u q:List Int) (lu lq j:Nat):Prop where
  ulen:u.length=lu
  qlen:q.length=lq
  ulimbs:Qv u
  qlimbs:Qv q
  eq:A=val (q.drop j) * (pw j * V)+val u
  lt:val u<pw j * V
structure Divisor (v:List Int) (V:Int) (n:Nat):Prop where
  len:v.length=n+1
  limbs:Qv v
  val:val v=V
  lt:V<pw n
  two:2≤n
  lead:1≤v.getD (n - 1) 0
theorem Divisor.split {v:List Int} {V:Int} {n:Nat} (h:Divisor v V n):V=Lmb.val (v.take (n - 2))+pw (n - 2) * (v.getD (n - 1) 0 * 1073741824+v.getD (n - 2) 0):=by
  have hl:=h.len;have h2:=h.two;have hn0:=Qp (Zv h.limbs n);have ht0:=Qp (Qy h.limbs n)
  have htop:Lmb.val (v.drop n)=0:=by
    have e:=QX v n (by omega);rw[h.val] at e;have hlt:=h.lt;have hp:=Zu n;rcases (show Lmb.val (v.drop n)=0∨1≤Lmb.val (v.drop n) by omega) with h|h
    · exact h
    · have:pw n * 1≤pw n * Lmb.val (v.drop n):=Int.mul_le_mul_of_nonneg_left h (by omega)
      omega
  have e:=QX v (n - 2) (by omega);have e1:=QK v (n - 2) (by omega);have e2:=QK v (n - 1) (by omega);have i1:n - 2+1=n - 1:=by omega
  have i2:n - 1+1=n:=by omega
  rw[i1] at e1;rw[i2,htop] at e2;rw[← h.val,e,e1,e2]
  have:v.getD (n - 2) 0+1073741824 * (v.getD (n - 1) 0+1073741824 * 0)=v.getD (n - 1) 0 * 1073741824+v.getD (n - 2) 0:=by omega
  rw[this]
structure Window (u:List Int) (V:Int) (n j:Nat) (D d U3:Int):Prop where
  isD:D=val (u.drop j)
  lt:D<1073741824 * V
  nonneg:0≤D
  eq:D=d+pw (n - 2) * U3
  d0:0≤d
  d1:d<pw (n - 2)
  above:val (u.drop (j+n+1))=0
theorem window {A V:Int} {u q v:List Int} {lu lq j n:Nat} (h:DivInv A V u q lu lq (j+1)) (hv:Divisor v V n) (hj:j+n<lu) :
    ∃ D d,Window u V n j D d ((u.getD (j+n) 0 * 1073741824+u.getD (j+n - 1) 0) * 1073741824+u.getD (j+n - 2) 0):=by
  have hl:=h.ulen;have h2:=hv.two;have hlt:=h.lt;have e0:=QX u j (by omega);have t0:=Qp (Qy h.ulimbs j);have D0:=Qp (Zv h.ulimbs j);have hpj:=Zu j
  have hD:Lmb.val (u.drop j)<1073741824 * V:=by
    have hp:pw (j+1) * V=pw j * (1073741824 * V):=by
      rw[QF];simp only[Int.mul_assoc,Int.mul_left_comm]
    have:pw j * Lmb.val (u.drop j)<pw j * (1073741824 * V):=by
      rw[hp] at hlt;generalize pw j * (1073741824 * V)=a at *;omega
    exact Int.lt_of_mul_lt_mul_left this (Int.le_of_lt hpj)
  have d0:=Qp (Qy (Zv h.ulimbs j) (n - 2));have d1:=val_lt (Qy (Zv h.ulimbs j) (n - 2));rw[List.length_take,List.length_drop,Nat.min_eq_left (by omega)] at d1;have e1:=QX (u.drop j) (n - 2) (by simp;omega);rw[List.drop_drop] at e1;have f1:=QK u (j+(n - 2)) (by omega);have f2:=QK u (j+n - 1) (by omega);have f3:=QK u (j+n) (by omega);have i0:j+(n - 2)=j+n - 2:=by omega
  have i1:j+n - 2+1=j+n - 1:=by omega
  have i2:j+n - 1+1=j+n:=by omega
  rw[i0] at e1 f1;rw[i1] at f1;rw[i2] at f2;have z0:=Qp (Zv h.ulimbs (j+n+1));have b1:=Qh h.ulimbs (j+n);have b2:=Qh h.ulimbs (j+n - 1);have b3:=Qh h.ulimbs (j+n - 2)
  have hz:Lmb.val (u.drop (j+n+1))=0:=by
    rcases (show Lmb.val (u.drop (j+n+1))=0∨1≤Lmb.val (u.drop (j+n+1)) by omega) with h|h
    · exact h
    · exfalso
      have hvl:=hv.lt;have hp:pw n=1073741824 * (1073741824 * pw (n - 2)):=by rw[← QF,← QF];congr 1;omega
      have hpp:=Zu (n - 2);have g1:1073741824 * 1073741824 * 1073741824≤Lmb.val (u.drop (j+n - 2)):=by omega
      have g2:pw (n - 2) * (1073741824 * 1073741824 * 1073741824)≤pw (n - 2) * Lmb.val (u.drop (j+n - 2)):=Int.mul_le_mul_of_nonneg_left g1 (by omega);omega
  refine⟨Lmb.val (u.drop j),Lmb.val ((u.drop j).take (n - 2)),rfl,hD,D0,?_,d0,d1,hz⟩;rw[e1,f1,f2,f3,hz]
  congr 2
  omega
theorem Window.high {u v:List Int} {V D d next third high:Int} {n j:Nat} (h:Window u V n j D d ((high * 1073741824+next) * 1073741824+third)) (hv:Divisor v V n) (n0:0≤next) (t0:0≤third):high≤v.getD (n - 1) 0:=by
  have hs:=hv.split;have d0:=h.d0;have hlt:=h.lt;have he:=h.eq;have v0:=Qp (Qy hv.limbs (n - 2));have v1:=val_lt (Qy hv.limbs (n - 2));rw[List.length_take,Nat.min_eq_left (by have:=hv.len;omega)] at v1;have bs:=Qh hv.limbs (n - 2);have hp:=Zu (n - 2);generalize v.getD (n - 1) 0=lead at *;generalize v.getD (n - 2) 0=second at *;generalize Lmb.val (v.take (n - 2))=vl at *;generalize pw (n - 2)=P at *;rcases Int.lt_or_le lead high with hc|hc
  · exfalso
    have g1:lead * 1073741824+second+1≤high * 1073741824:=by omega
    have g2:P * (lead * 1073741824+second+1)≤P * (high * 1073741824):=Int.mul_le_mul_of_nonneg_left g1 (by omega);have g3:P * ((high * 1073741824) * 1073741824)≤P * ((high * 1073741824+next) * 1073741824+third):=Int.mul_le_mul_of_nonneg_left (by omega) (by omega);rw[Int.mul_add P,Int.mul_one] at g2;rw[← Int.mul_assoc] at g3;omega
  · exact hc
theorem sub_end {A V:Int} {u q v us:List Int} {lu lq j n:Nat} {D d U3 g c:Int} (h:DivInv A V u q lu lq (j+1)) (hv:Divisor v V n) (hj:j+n<lu) (hq:j<lq) (hw:Window u V n j D d U3)
    (hg0:0≤g) (hg1:g<1073741824) (hlo:D<(g+1) * V) (hs:SubMul us u v g j (n+1) c) (hc:¬ c<0):DivInv A V us (q.set j g) lu lq j:=by
  have hcz:c=0:=by have:=hs.c1;omega
  have hval:=hs.val;rw[hcz,List.take_of_length_le (by have:=hv.len;omega),hv.val] at hval;have hul:=h.ulen;have hql:=h.qlen;have e0:=QX u j (by omega);have t1:=val_lt (Qy h.ulimbs j);rw[List.length_take,Nat.min_eq_left (by omega)] at t1;have eD:=hw.isD;rw[← eD] at e0;have hpj:=Zu j;have hA:=h.eq;have e2:=QK (q.set j g) j (by simp;omega);have e3:(q.set j g).drop (j+1)=q.drop (j+1):=by rw[List.drop_set_of_lt (by omega)]
  rw[QU _ _ _ (by omega),if_pos rfl,e3] at e2;refine⟨by rw[hs.len];exact hul,by simpa using hql,hs.limbs,QP h.qlimbs _ _ ⟨hg0,hg1⟩,?_,?_⟩
  · rw[e2,hA,QF]
    generalize Lmb.val (q.drop (j+1))=Q at *
    have x1:(g+1073741824 * Q) * (pw j * V)=pw j * (g * V)+Q * (1073741824 * pw j * V):=by
      rw[Int.add_mul];simp only[Int.mul_assoc,Int.mul_left_comm,Int.mul_comm]
    rw[x1];omega
  · have g1:pw j * (D+1)≤pw j * ((g+1) * V):=Int.mul_le_mul_of_nonneg_left (by omega) (by omega)
    rw[Int.add_mul,Int.mul_add,Int.mul_add,Int.one_mul,Int.mul_one] at g1;omega
theorem back_end {A V:Int} {u q v us ws:List Int} {lu lq j n:Nat} {D d U3 g c c2:Int} (h:DivInv A V u q lu lq (j+1)) (hv:Divisor v V n) (hj:j+n<lu) (hq:j<lq) (hw:Window u V n j D d U3)
    (hg1:g<1073741824) (hhi:g * V≤D+V) (hs:SubMul us u v g j (n+1) c) (hc:c<0) (hb:AddBack ws us v j (n+1) c2) (g0:0≤g):1≤g∧DivInv A V ws (q.set j (g - 1)) lu lq j:=by
  have hval:=hs.val;have hbv:=hb.val;rw[List.take_of_length_le (by have:=hv.len;omega),hv.val] at hval hbv;have hul:=h.ulen;have hql:=h.qlen;have e0:=QX u j (by omega);have t0:=Qp (Qy h.ulimbs j);have t1:=val_lt (Qy h.ulimbs j);rw[List.length_take,Nat.min_eq_left (by omega)] at t1;have eD:=hw.isD;rw[← eD] at e0;have hpj:=Zu j;have hA:=h.eq;have hD0:=hw.nonneg;have za:=zero_of_val (Zv h.ulimbs _) hw.above;have hsl:=hs.len;have hbl:=hb.len
  have zs:Lmb.val (us.drop (j+n+1))=0:=by
    rw[val_drop_congr hsl (fun t ht=>hs.rest t (by omega))];exact hw.above
  have zw:Lmb.val (ws.drop (j+n+1))=0:=by
    rw[val_drop_congr hbl (fun t ht=>hb.rest t (by omega))];exact zs
  have es:=QX us (j+n+1) (by omega);have ew:=QX ws (j+n+1) (by omega);rw[zs] at es;rw[zw] at ew;have s0:=Qp (Qy hs.limbs (j+n+1));have s1:=val_lt (Qy hs.limbs (j+n+1));have w0:=Qp (Qy hb.limbs (j+n+1));have w1:=val_lt (Qy hb.limbs (j+n+1));rw[List.length_take,Nat.min_eq_left (by omega)] at s1 w1;rw[Int.mul_zero,Int.add_zero] at es ew;rw[← es] at s0 s1;rw[← ew] at w0 w1;have hpn:pw (j+n+1)=1073741824 * (pw j * pw n):=by rw[QF,pw_add]
  have i1:j+(n+1)=j+n+1:=by omega
  rw[i1] at hval hbv;have hpp:=Zu (j+n+1)
  have hneg:D<g * V:=by
    rcases Int.lt_or_le D (g * V) with hx|hx
    · exact hx
    · exfalso
      have:pw j * (g * V)≤pw j * D:=Int.mul_le_mul_of_nonneg_left hx (by omega)
      have x2:pw (j+n+1) * c≤pw (j+n+1) * (-1):=Int.mul_le_mul_of_nonneg_left (by omega) (by omega);omega
  have hg:1≤g:=by
    rcases (show g=0∨1≤g by omega) with hx|hx
    · rw[hx,Int.zero_mul] at hneg;omega
    · exact hx
  have hVn:=hv.lt;have y1:pw j * (g * V)≤pw j * (D+V):=Int.mul_le_mul_of_nonneg_left hhi (by omega);have y2:pw j * (D+1)≤pw j * (g * V):=Int.mul_le_mul_of_nonneg_left (by omega) (by omega);have y3:pw j * V≤pw j * pw n:=Int.mul_le_mul_of_nonneg_left (by omega) (by omega);have y4:0<pw j * pw n:=Int.mul_pos hpj (Zu n);rw[Int.mul_add,Int.mul_one] at y2;rw[Int.mul_add] at y1
  have hcm:c=-1:=by
    rcases (show c=-1∨c≤-2 by omega) with hx|hx
    · exact hx
    · exfalso
      have x2:pw (j+n+1) * c≤pw (j+n+1) * (-2):=Int.mul_le_mul_of_nonneg_left hx (by omega);omega
  rw[hcm] at hval
  have hc2:c2=1:=by
    have:=hb.c0;have:=hb.c1;rcases (show c2=0∨c2=1 by omega) with hx|hx
    · exfalso;rw[hx] at hbv;omega
    · exact hx
  rw[hc2] at hbv;have hfin:Lmb.val ws=Lmb.val u - pw j * (g * V)+pw j * V:=by omega
  have e2:=QK (q.set j (g - 1)) j (by simp;omega);have e3:(q.set j (g - 1)).drop (j+1)=q.drop (j+1):=by rw[List.drop_set_of_lt (by omega)]
  rw[QU _ _ _ (by omega),if_pos rfl,e3] at e2;refine⟨hg,by rw[hbl,hsl];exact hul,by simpa using hql,hb.limbs,QP h.qlimbs _ _ ⟨by omega,by omega⟩,?_,?_⟩
  · rw[e2,hA,QF]
    generalize Lmb.val (q.drop (j+1))=Q at *
    have x1:(g - 1+1073741824 * Q) * (pw j * V)=pw j * (g * V) - pw j * V+Q * (1073741824 * pw j * V):=by
      have y1:g * (pw j * V)=pw j * (g * V):=Int.mul_left_comm _ _ _;have y2:1073741824 * Q * (pw j * V)=Q * (1073741824 * pw j * V):=by simp only[Int.mul_assoc,Int.mul_left_comm]
      rw[Int.add_mul,Int.sub_mul,Int.one_mul,y1,y2]
    rw[x1];omega
  · omega
end Go.Proofs.YtabgkfjfmjdfiaaGreatDoor.Lmb
