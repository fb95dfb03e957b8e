import Derived.Test.YtabgkfjfmjdfiaaGreatDoorEv
import Derived.Test.YtabgkfjfmjdfiaaGreatDoorDraw
set_option linter.unusedSimpArgs false
set_option linter.unusedVariables false
namespace Go.Proofs.YtabgkfjfmjdfiaaGreatDoor
open Go.RowKit Eng
def Frm.codes (cb:Nat):Frm:=⟨fun b=>b=cb,fun b=>b=cb,Codes cb,fun _ h=>h,fun w b h e=>by subst e;exact h.lt,fun w w' B h hB hw=>h.kept fun k hk=>hw k (Nat.lt_of_le_of_lt hk (hB cb rfl))⟩
def ptr (cb:Nat):SV:=.v (.pointer (some ⟨cb,0,none⟩))
theorem enters_of {P:Program} {f:FuncId} {fn:Func} {c:Code} (hf:P.funcs[f]? = some fn) (hb:fn.body=some c) (hname:(fn.name == "runtime.NumGoroutine")=false):∀ vs w,(callFunc f vs).run P w=.ok (.enter f vs) w:=by
  intro vs w;have hn:¬ fn.name = "runtime.NumGoroutine" := by simpa using hname
  simp [callFunc,hf,hn,hb]
theorem nextC (cb:Nat) (n:Int) (h1:-9223372036854775808≤n) (h2:n≤9223372036854775807):Contract (Frm.codes cb) Tryz.prog 24 [ptr cb,.i .i64 n] (fun r=>∃ x:Int,r=.i .i64 x∧0≤x∧(x<n∨x=0)):=by
  refine⟨enters_of Tryz.func24 rfl (by kernel_rfl),fun R w hinv _ hR=>?_⟩;refine (next_calls cb n w hinv h1 h2).mono ?_;rintro e w' ⟨r,rfl,hr0,hr1,hc,hg⟩;exact⟨.i .i64 r,rfl,⟨r,rfl,hr0,hr1⟩,trivial,⟨hg.os,hg.tape,hg.output,hg.size,fun b hb hm=>hg.block b hb (fun e=>hm (show b=cb by simpa using e))⟩,hc⟩
def isBytes (s:SV):Prop:=∃ a len cap rd,s=.sl a len cap 1 rd∧∀ i,i<len→∃ x:Int,0≤x∧x<256∧rd i 0=.i .u8 x
theorem new_made (a:Option Addr) (len cap:Nat) (w:World) (most:Nat) (h1:len≤cap) (h2:cap≤maxLen) (hm:most≤65536) :
    Calls Tryz.prog 6 #[.slice a len cap,.int .i64 (most:Int)] w fun e w'=>e=.returned (.pointer (some ⟨w.heap.size,0,none⟩))∧∃ n,n≤len∧w'=w.alloc (.cells #[.slice a n cap,.int .i64 0] 66):=by
  unfold maxLen at h2;by_cases hl:(most:Nat)<len
  · go_enter Tryz.func6,Tryz.ntmps6
    go_wp2
    go_ret
    exact⟨rfl,most,by omega,rfl⟩
  · go_enter Tryz.func6,Tryz.ntmps6
    go_wp2
    go_ret
    exact⟨rfl,len,by omega,rfl⟩
theorem newRC (s:SV) (hs:isBytes s) (most:Nat) (hm:most≤65536):Makes Tryz.prog 6 [s,.i .i64 most] (fun cb w=>Codes cb w):=by
  obtain⟨a,len,cap,rd,rfl,hb⟩:=hs;refine⟨enters_of Tryz.func6 rfl (by kernel_rfl),fun R w hargs hR=>?_⟩;obtain⟨h1,h2,h3⟩:=hargs _ (List.mem_cons_self ..);refine (new_made a len cap w most h1 h2 hm).mono ?_;rintro e w' ⟨rfl,n,hn,rfl⟩;refine⟨rfl,by simp,⟨rfl,rfl,rfl,by simp,fun b hb _=>heap_alloc_old w _ hb⟩,fun w'' hw''=>?_⟩;refine⟨a,n,cap,0,(hw'' _ (.inr rfl)).trans (heap_alloc_new w _),by omega,Nat.zero_le _,?_⟩;rcases h3 with h3|⟨blk,off,rfl,hr,hc⟩
  · exact .inl (by omega)
  · have hlt:=hR blk hr
    refine .inr ⟨blk,off,rfl,hlt,fun i hi=>?_⟩;obtain⟨x,hx0,hx1,hx⟩:=hb i (by omega);have h:=(hc i 0 (by omega) (by omega)).1;rw[hx,Nat.mul_one] at h;exact⟨x,hx0,hx1,by rw[World.cell?_of_block (w:=w) (a:=⟨blk,off+i,none⟩) ((hw'' blk (.inl hr)).trans (heap_alloc_old w _ hlt))];exact h⟩
end Go.Proofs.YtabgkfjfmjdfiaaGreatDoor
