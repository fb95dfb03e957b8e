/- It is proved that the statement ExclusionFinds holds for every input: what package exclusion returns is what the reference returns. No conditions. -/
import Derived.Test.YtfeiiadligkamaaGreatPk6
import Derived.Test.YtfeiiadligkamaaGreatShExclusionFinds
set_option linter.unusedSimpArgs false
set_option linter.unusedVariables false
namespace Go.Proofs.YtfeiiadligkamaaGreat
open Go.Sort Eng Go.RowKit
theorem sim_aggN {n:Nat} {f g:Nat→SV} (h:∀ j,j<n→sim (f j) (g j)):sim (.agg n f) (.agg n g):=by
 refine⟨?_,fun R w hk j hj=>(h j hj).2 R w (hk j hj)⟩;show Value.agg ((List.range n).map fun j=>(f j).den).toArray=Value.agg ((List.range n).map fun j=>(g j).den).toArray;rw[List.map_congr_left fun j hj=>(h j (List.mem_range.1 hj)).1]
set_option maxRecDepth 100000 in
theorem id_of_sh {D:Nat} {l:List SV} (h:Sh Tryz.prog (D+2) 27 l):∃ d:Idn,l=Idn.cs d:=by
 obtain⟨h1,h2⟩:=sh_fields (ps:=[(0,3),(1,3),(2,3)]) (by kernel_rfl) (by kernel_rfl) h;have hc:Tryz.prog.cellsOf 27=3:=by kernel_rfl
 have c1:Tryz.prog.cellsOf 3=1:=by kernel_rfl
 rw[hc] at h1
 match l,h1 with
 | [x0,x1,x2],_=>
  have g0:=h2 (0,3) (by simp);have g1:=h2 (1,3) (by simp);have g2:=h2 (2,3) (by simp);simp only[c1] at g0 g1 g2;obtain⟨n0,e0,_⟩:=Z5 (k:=.i64) (by kernel_rfl) g0;obtain⟨n1,e1,_⟩:=Z5 (k:=.i64) (by kernel_rfl) g1;obtain⟨n2,e2,_⟩:=Z5 (k:=.i64) (by kernel_rfl) g2;simp at e0 e1 e2;subst e0 e1 e2;exact⟨⟨n0,n1,n2⟩,rfl⟩
set_option maxRecDepth 100000 in
theorem exc_of_sh {D:Nat} {l:List SV} (h:Sh Tryz.prog (D+4) 29 l):∃ x:Exc,l=Exc.cs x:=by
 obtain⟨h1,h2⟩:=sh_fields (ps:=[(0,25),(1,25),(2,27),(5,27)]) (by kernel_rfl) (by kernel_rfl) h;have hc:Tryz.prog.cellsOf 29=8:=by kernel_rfl
 have c1:Tryz.prog.cellsOf 27=3:=by kernel_rfl
 have c2:Tryz.prog.cellsOf 25=1:=by kernel_rfl
 rw[hc] at h1
 match l,h1 with
 | [x0,x1,x2,x3,x4,x5,x6,x7],_=>
  have g0:=h2 (0,25) (by simp);have g1:=h2 (1,25) (by simp);have g2:=h2 (2,27) (by simp);have g3:=h2 (5,27) (by simp);simp only[c1,c2] at g0 g1 g2 g3;obtain⟨n0,e0,w0⟩:=Z5 (k:=.u32) (by kernel_rfl) g0;obtain⟨n1,e1,w1⟩:=Z5 (k:=.u32) (by kernel_rfl) g1;obtain⟨d0,e2⟩:=id_of_sh g2;obtain⟨d1,e3⟩:=id_of_sh g3;simp [Idn.cs] at e0 e1 e2 e3;obtain⟨q2,q3,q4⟩:=e2;obtain⟨q5,q6,q7⟩:=e3;subst e0 e1 q2 q3 q4 q5 q6 q7;exact⟨⟨n0,n1,d0,d1⟩,rfl⟩
theorem valS_exc (x:Exc):valS Tryz.prog 29 (Exc.cs x)=excAg x:=by
 have:∀ x0 x1 x2 x3 x4 x5 x6 x7:SV,valS Tryz.prog 29 [x0,x1,x2,x3,x4,x5,x6,x7]=.agg 8 fun j=>[x0,x1,x2,x3,x4,x5,x6,x7].getD j default:=fun _ _ _ _ _ _ _ _=>by kernel_rfl
 exact this _ _ _ _ _ _ _ _
set_option maxRecDepth 100000 in
theorem ev_of_sh {D:Nat} {l:List SV} (h:Sh Tryz.prog (D+4) 32 l):∃ (e:Evd) (rd:Nat→Nat→SV),l=[.i .i64 e.kind,.i .u32 e.a,.i .u32 e.b,.sl e.ad e.ids.length e.cap 3 rd]∧(InA e.a∧InA e.b)∧rdEq e.ids.length 3 rd (QX e.ids.toArray):=by
 obtain⟨h1,h2⟩:=sh_fields (ps:=[(0,3),(1,25),(2,25),(3,30)]) (by kernel_rfl) (by kernel_rfl) h;have hc:Tryz.prog.cellsOf 32=4:=by kernel_rfl
 have c1:Tryz.prog.cellsOf 3=1:=by kernel_rfl
 have c2:Tryz.prog.cellsOf 25=1:=by kernel_rfl
 have c3:Tryz.prog.cellsOf 30=1:=by kernel_rfl
 rw[hc] at h1
 match l,h1 with
 | [x0,x1,x2,x3],_=>
  have g0:=h2 (0,3) (by simp);have g1:=h2 (1,25) (by simp);have g2:=h2 (2,25) (by simp);have g3:=h2 (3,30) (by simp);simp only[c1,c2,c3] at g0 g1 g2 g3;obtain⟨n0,e0,_⟩:=Z5 (k:=.i64) (by kernel_rfl) g0;obtain⟨n1,e1,w1⟩:=Z5 (k:=.u32) (by kernel_rfl) g1;obtain⟨n2,e2,w2⟩:=Z5 (k:=.u32) (by kernel_rfl) g2;obtain⟨a,cap,ids,rd,e3,_,hrd⟩:=sh_slice Idn.cs (fun _=>True) (sz:=3) (e:=27) (by kernel_rfl) (by kernel_rfl) (fun l h=>by obtain⟨d,hd⟩:=id_of_sh h;exact⟨d,hd,trivial⟩) g3;simp at e0 e1 e2 e3;subst e0 e1 e2 e3;refine⟨⟨n0,n1,n2,ids,a,cap⟩,rd,rfl,⟨by have:=bounds_u32 w1;unfold InA;show 0≤n1∧n1<_;omega,by have:=bounds_u32 w2;unfold InA;show 0≤n2∧n2<_;omega⟩,fun i j hi hj=>?_⟩;have h9:=hrd i j hi hj;rw[h9];show _=(Idn.cs ids.toArray[i]!).getD j default;rw[idnAt hi]
theorem valS_ev (x0 x1 x2 x3:SV):valS Tryz.prog 32 [x0,x1,x2,x3]=.agg 4 fun j=>[x0,x1,x2,x3].getD j default:=by kernel_rfl
theorem ev_sim (e:Evd) {rd:Nat→Nat→SV} (h:rdEq e.ids.length 3 rd (QX e.ids.toArray)):sim (.agg 4 fun j=>[SV.i .i64 e.kind,.i .u32 e.a,.i .u32 e.b,.sl e.ad e.ids.length e.cap 3 rd].getD j default) (evAg e):=by
 refine sim_aggN fun j hj=>?_;rcases (show j=0∨j=1∨j=2∨j=3 by omega) with rfl|rfl|rfl|rfl
 ·exact QE _
 ·exact QE _
 ·exact QE _
 ·exact sim_sl h
open Go.RowKit Go.WideShapes Go.ChangeShapes in
set_option maxRecDepth 100000 in
theorem finds_walk:exclusionFinds.Walk:=by
 intro w l0 l1 l2 l3 l4 c0 s0 o0 c1 s1 o1 c2 s2 o2 c3 s3 o3 c4 s4 o4;obtain⟨a,cap,z,rd,rfl,hz,hrd⟩:=sh_ints (e:=5) (k:=.u8) (by kernel_rfl) (by kernel_rfl) (by kernel_rfl) s0;obtain⟨ra,rc,raw,rrd,rfl,hraw,hrr⟩:=sh_slice Res.cs wfR (sz:=17) (e:=62) (by kernel_rfl) (by kernel_rfl) (fun l h=>res_of_sh h) s1;obtain⟨x1,rfl⟩:=exc_of_sh s2;obtain⟨x2,rfl⟩:=exc_of_sh s3;obtain⟨e,re,rfl,he,hre⟩:=ev_of_sh s4;rw[valS_one (by kernel_rfl)] at o0 o1;rw[valS_exc] at o2 o3;rw[valS_ev] at o4;rw[valS_one (t:=22) (by kernel_rfl),valS_one (t:=23) (by kernel_rfl),valS_exc,valS_exc,valS_ev]
 have hl:raw.length≤maxLen:=by
  obtain⟨h1,h2,_⟩:=o1;omega
 have hle:e.ids.length≤maxLen:=by
  obtain⟨h1,h2,_⟩:=o4 3 (by decide);omega
 have hc':Contract Frm.nil Tryz.prog 3 [.sl a z.length cap 1 rd,.sl ra raw.length rc 17 rrd,excAg x1,excAg x2,.agg 4 fun j=>[SV.i .i64 e.kind,.i .u32 e.a,.i .u32 e.b,.sl e.ad e.ids.length e.cap 3 re].getD j default] (fun r=>r=.b true):=
  QW (findsC a cap z hz ra rc raw (fun r hr=>wf_rg (hraw r hr)) hl x1 x2 e he hle) ⟨sim_sl hrd,sim_sl (res_rd (n:=raw.length) raw hrr),QE _,QE _,ev_sim e hre,trivial⟩
 exact walk_of hc' (by
  intro s hs;simp only[List.mem_cons,List.mem_singleton,List.not_mem_nil,or_false] at hs
  rcases hs with rfl|rfl|rfl|rfl|rfl<;>assumption)
theorem finds_holds:Rows.ExclusionFindsSaid:=exclusionFinds.of_walk finds_walk
#print axioms finds_holds
end Go.Proofs.YtfeiiadligkamaaGreat
