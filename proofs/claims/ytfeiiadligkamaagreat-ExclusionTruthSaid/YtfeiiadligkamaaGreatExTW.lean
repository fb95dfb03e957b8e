/- ExclusionTruth: excluded addresses belong to different routers, and mates to one, in a network of links. The law holds of every input. -/
import Derived.Test.YtfeiiadligkamaaGreatPk5
import Derived.Test.YtfeiiadligkamaaGreatWalkE
import Derived.Test.YtfeiiadligkamaaGreatShExclusionTruth
set_option linter.unusedSimpArgs false
set_option linter.unusedVariables false
namespace Go.Proofs.YtfeiiadligkamaaGreat
open Go.Sort Eng
theorem exT_0 (d : Array Exc) (i : Nat) : excRd d i 0 = .i .u32 d[i]!.a := rfl
theorem exT_1 (d : Array Exc) (i : Nat) : excRd d i 1 = .i .u32 d[i]!.b := rfl
theorem evT_1 (es : List Evd) (i : Nat) : evRd es i 1 = .i .u32 (es.getD i default).a := rfl
theorem evT_2 (es : List Evd) (i : Nat) : evRd es i 2 = .i .u32 (es.getD i default).b := rfl
def natRd (l : List Nat) : Nat → Nat → SV := fun i _ => .i .i64 ((l.getD i 0 : Nat) : Int)
theorem nat_one (l : List Nat) (i j : Nat) (_ : j < 1) : oneS (natRd l i j) = true := rfl
theorem nat_app {ys : List Nat} {x : Nat} {cs : List SV} (h : cs = [.i .i64 (x : Int)]) : rdEq (ys.length + 1) 1 (rdCat ys.length (natRd ys) (rdL cs 1)) (natRd (ys ++ [x])) := by
 subst h
 refine rdEq_snoc (fun i j hi hj => ?_) (fun j hj => ?_)
 ·simp [natRd, List.getD, List.getElem?_append, hi]
 ·obtain rfl : j = 0 := by omega
  simp [natRd, List.getD]
def updP (Ps : Nat → List Nat) (f : Nat) (P : List Nat) : Nat → List Nat := fun g => if g = f then P else Ps g
theorem updP_at (Ps : Nat → List Nat) (f : Nat) (P : List Nat) : updP Ps f P f = P := if_pos rfl
theorem updP_ok {Ps : Nat → List Nat} (h : ∀ f, PathOk (Ps f)) {f : Nat} {P : List Nat} (hP : PathOk P) : ∀ g, PathOk (updP Ps f P g) := fun g => by
 unfold updP
 split
 ·exact hP
 ·exact h g
theorem TruL.upd {Ps : Nat → List Nat} {xs : List Res} {f : Nat} (hf3 : f < 3) (h : TruL Ps xs) (hf : ∀ r ∈ xs, r.flow < f) (P : List Nat) : TruL (updP Ps f P) xs := by
 refine ⟨fun r hr => ?_, h.one⟩
 obtain ⟨n, hn, ⟨g, i, hg, hi, hi5, e⟩ | ⟨k, a, h1, h2, h3, h4, e⟩⟩ := h.all r hr
 ·have hgf : g ≠ f := by
   have := hf r hr
   rw [e] at this
   have : (g : Int) < f := this
   omega
  have hu : updP Ps f P g = Ps g := if_neg hgf
  exact ⟨n, hn, .inl ⟨g, i, hg, by rw [hu]; exact hi, hi5, by rw [hu]; exact e⟩⟩
 ·exact ⟨n, hn, .inr ⟨k, a, h1, h2, h3, h4, e⟩⟩
theorem TruL.snoc1 {Ps : Nat → List Nat} {xs : List Res} (h : TruL Ps xs) {f i n : Nat} (hn : n < 100) (hf : f < 3) (hi : i < (Ps f).length) (hi5 : i < 5) : TruL Ps (xs ++ [rplR n f (i + 1) (lnk (ahd (Ps f) i) ((Ps f).getD i 0) + 2)]) := by
 refine ⟨fun r hr => ?_, fun r hr s hs h8 e => ?_⟩
 ·rcases List.mem_append.1 hr with hr | hr
  ·exact h.all r hr
  ·rw [List.mem_singleton] at hr
   exact ⟨n, hn, .inl ⟨f, i, hf, hi, hi5, hr⟩⟩
 ·rcases List.mem_append.1 hr with hr | hr <;> rcases List.mem_append.1 hs with hs | hs
  ·exact h.one r hr s hs h8 e
  ·rw [List.mem_singleton] at hs
   rw [hs] at e
   have : r.flow = (f : Int) := e
   omega
  ·rw [List.mem_singleton] at hr
   rw [hr] at h8
   have : (8 : Int) ≤ f := h8
   omega
  ·rw [List.mem_singleton] at hr hs
   rw [hr, hs]
theorem TruL.snoc2 {Ps : Nat → List Nat} {xs : List Res} (h : TruL Ps xs) {k a n : Nat} (hn : n < 100) (h1 : 1 ≤ k) (h2 : k < 5) (h3 : 1 ≤ a) (h4 : a ≤ 4) (hk : ∀ r ∈ xs, r.flow ≠ 7 + k) : TruL Ps (xs ++ [rplR n (7 + k) 1 (lnk a (a + 1) + 1)]) := by
 refine ⟨fun r hr => ?_, fun r hr s hs h8 e => ?_⟩
 ·rcases List.mem_append.1 hr with hr | hr
  ·exact h.all r hr
  ·rw [List.mem_singleton] at hr
   exact ⟨n, hn, .inr ⟨k, a, h1, h2, h3, h4, hr⟩⟩
 ·rcases List.mem_append.1 hr with hr | hr <;> rcases List.mem_append.1 hs with hs | hs
  ·exact h.one r hr s hs h8 e
  ·rw [List.mem_singleton] at hs
   rw [hs] at e
   exact absurd e (hk r hr)
  ·rw [List.mem_singleton] at hr
   rw [hr] at e
   exact absurd e.symm (hk s hs)
  ·rw [List.mem_singleton] at hr hs
   rw [hr, hs]
theorem PathOk.snoc {P : List Nat} {q : Nat} (h : PathOk P) (hq : ∀ x ∈ P, x < q) (h1 : 1 ≤ q) (h2 : q ≤ 5) : PathOk (P ++ [q]) :=
 ⟨List.pairwise_append.2 ⟨h.asc, List.pairwise_singleton _ _, fun a ha b hb => by rw [List.mem_singleton] at hb; subst hb; exact hq a ha⟩, fun x hx => by
  rcases List.mem_append.1 hx with hx | hx
  ·exact h.ge x hx
  ·rw [List.mem_singleton] at hx; subst hx; exact ⟨h1, h2⟩⟩
set_option maxRecDepth 100000 in
theorem lnkC (F : Frm) (p q : Nat) (hp : p ≤ 10) (hq : q ≤ 10) : Contract F Tryz.prog 36 [.i .i64 (p : Int), .i .i64 (q : Int)] (fun r => r = .i .u32 (lnk p q)) := by
 have w1 : IntKind.i64.wrap (8 * (p : Int)) = 8 * (p : Int) := w64 (by omega)
 have w2 : IntKind.i64.wrap (8 * (p : Int) + q) = 8 * (p : Int) + q := w64 (by omega)
 have w3 : IntKind.i64.wrap (4 * (8 * (p : Int) + q)) = 4 * (8 * (p : Int) + q) := w64 (by omega)
 have w4 : IntKind.i64.wrap (167772160 + 4 * (8 * (p : Int) + q)) = 167772160 + 4 * (8 * (p : Int) + q) := w64 (by omega)
 have w5 : IntKind.u32.wrap (167772160 + 4 * (8 * (p : Int) + q)) = 167772160 + 4 * (8 * (p : Int) + q) := by rw [IntKind.wrap_u32]; omega
 refine contract_of Tryz.func36 rfl (by kernel_rfl) ?_
 simp only [Tryz.ntmps36, argEnv]
 (repeat refine Sat.seq ?_)
 (refine Sat.region_k fun k hk => ?_; simp -implicitDefEqProofs only [evr, id, reduceCtorEq, reduceIte, Nat.reduceMul, Nat.reduceAdd, Nat.reduceLT, Nat.reduceLeDiff, Nat.reduceEqDiff, Int.reduceLT, Int.reduceBEq, Int.reduceBNe, Nat.reduceBEq, exT_0, exT_1, evT_1, evT_2, ptr, nat_one, ev_one, exc_one, res_one, par_one, idn_one, idn_0, idn_1, idn_2, Int.reduceToNat, resRow, res_ro, rExtract_tup, evn]; refine hk _ ?_; clear hk k; try show Sat _ _ _ _ _)
 (repeat refine Sat.seq ?_)
 refine Sat.region_k fun k hk => ?_
 simp -implicitDefEqProofs only [evr, id, reduceCtorEq, reduceIte, Nat.reduceMul, Nat.reduceAdd, Nat.reduceLT, Nat.reduceLeDiff, Nat.reduceEqDiff, Int.reduceLT, Int.reduceBEq, Int.reduceBNe, Nat.reduceBEq, exT_0, exT_1, evT_1, evT_2, ptr, nat_one, ev_one, exc_one, res_one, par_one, idn_one, idn_0, idn_1, idn_2, Int.reduceToNat, resRow, res_ro, rExtract_tup, w1, w2, w3, w4, w5, evn]
 (refine hk _ ?_; clear hk k; try show Sat _ _ _ _ _)
 refine Sat.ret ?_
 simp only [Tryz.results36, evr, id, reduceCtorEq, reduceIte, Nat.reduceMul, Nat.reduceAdd, Nat.reduceLT, Nat.reduceLeDiff, Nat.reduceEqDiff, Int.reduceLT, Int.reduceBEq, Int.reduceBNe, Nat.reduceBEq, exT_0, exT_1, evT_1, evT_2, ptr, nat_one, ev_one, exc_one, res_one, par_one, idn_one, idn_0, idn_1, idn_2, List.append_nil, Int.toNat_zero, Nat.sub_self, Int.reduceToNat, resRow, res_ro, rExtract_tup]
 rfl
set_option maxRecDepth 100000 in
theorem rtrC (F : Frm) (a : Int) (h1 : 167772160 ≤ a) (h2 : a ≤ 167773000) : Contract F Tryz.prog 38 [.i .u32 a] (fun r => r = .i .i64 (rtr a)) := by
 have w1 : IntKind.u32.wrap (a - 167772160) = a - 167772160 := by rw [IntKind.wrap_u32]; omega
 have w2 : IntKind.i64.wrap (a - 167772160) = a - 167772160 := w64 (by omega)
 have t1 : (a - 167772160).tdiv 4 = (a - 167772160) / 4 := Int.tdiv_eq_ediv_of_nonneg (by omega)
 have t2 : ((a - 167772160) / 4).tdiv 8 = (a - 167772160) / 4 / 8 := Int.tdiv_eq_ediv_of_nonneg (by omega)
 have w3 : IntKind.i64.wrap ((a - 167772160).tdiv 4) = (a - 167772160).tdiv 4 := by rw [t1]; exact w64 (by omega)
 have w4 : IntKind.i64.wrap (((a - 167772160).tdiv 4).tdiv 8) = ((a - 167772160).tdiv 4).tdiv 8 := by rw [t1, t2]; exact w64 (by omega)
 refine contract_of Tryz.func38 rfl (by kernel_rfl) ?_
 simp only [Tryz.ntmps38, argEnv]
 (repeat refine Sat.seq ?_)
 (refine Sat.region_k fun k hk => ?_; simp -implicitDefEqProofs only [evr, id, reduceCtorEq, reduceIte, Nat.reduceMul, Nat.reduceAdd, Nat.reduceLT, Nat.reduceLeDiff, Nat.reduceEqDiff, Int.reduceLT, Int.reduceBEq, Int.reduceBNe, Nat.reduceBEq, exT_0, exT_1, evT_1, evT_2, ptr, nat_one, ev_one, exc_one, res_one, par_one, idn_one, idn_0, idn_1, idn_2, Int.reduceToNat, resRow, res_ro, rExtract_tup, evn]; refine hk _ ?_; clear hk k; try show Sat _ _ _ _ _)
 (repeat refine Sat.seq ?_)
 refine Sat.region_k fun k hk => ?_
 simp -implicitDefEqProofs only [evr, id, reduceCtorEq, reduceIte, Nat.reduceMul, Nat.reduceAdd, Nat.reduceLT, Nat.reduceLeDiff, Nat.reduceEqDiff, Int.reduceLT, Int.reduceBEq, Int.reduceBNe, Nat.reduceBEq, exT_0, exT_1, evT_1, evT_2, ptr, nat_one, ev_one, exc_one, res_one, par_one, idn_one, idn_0, idn_1, idn_2, Int.reduceToNat, resRow, res_ro, rExtract_tup, w1, w2, evn]
 (refine hk _ ?_; clear hk k; try show Sat _ _ _ _ _)
 (repeat refine Sat.seq ?_)
 (refine Sat.region_k fun k hk => ?_; simp -implicitDefEqProofs only [evr, id, reduceCtorEq, reduceIte, Nat.reduceMul, Nat.reduceAdd, Nat.reduceLT, Nat.reduceLeDiff, Nat.reduceEqDiff, Int.reduceLT, Int.reduceBEq, Int.reduceBNe, Nat.reduceBEq, exT_0, exT_1, evT_1, evT_2, ptr, nat_one, ev_one, exc_one, res_one, par_one, idn_one, idn_0, idn_1, idn_2, Int.reduceToNat, resRow, res_ro, rExtract_tup, evn])
 refine ⟨by decide, ?_⟩
 (refine hk _ ?_; clear hk k; try show Sat _ _ _ _ _)
 (repeat refine Sat.seq ?_)
 refine Sat.cond_b rfl (fun h => ?_) (fun h => ?_)
 ·(repeat refine Sat.seq ?_)
  (refine Sat.region_k fun k hk => ?_; simp -implicitDefEqProofs only [evr, id, reduceCtorEq, reduceIte, Nat.reduceMul, Nat.reduceAdd, Nat.reduceLT, Nat.reduceLeDiff, Nat.reduceEqDiff, Int.reduceLT, Int.reduceBEq, Int.reduceBNe, Nat.reduceBEq, exT_0, exT_1, evT_1, evT_2, ptr, nat_one, ev_one, exc_one, res_one, par_one, idn_one, idn_0, idn_1, idn_2, Int.reduceToNat, resRow, res_ro, rExtract_tup, evn])
  refine ⟨by decide, by decide, ?_⟩
  (refine hk _ ?_; clear hk k; try show Sat _ _ _ _ _)
  refine Sat.ret ?_
  simp only [Tryz.results38, evr, id, reduceCtorEq, reduceIte, Nat.reduceMul, Nat.reduceAdd, Nat.reduceLT, Nat.reduceLeDiff, Nat.reduceEqDiff, Int.reduceLT, Int.reduceBEq, Int.reduceBNe, Nat.reduceBEq, exT_0, exT_1, evT_1, evT_2, ptr, nat_one, ev_one, exc_one, res_one, par_one, idn_one, idn_0, idn_1, idn_2, List.append_nil, Int.toNat_zero, Nat.sub_self, Int.reduceToNat, resRow, res_ro, rExtract_tup]
  have e : rtr a = ((a - 167772160).tdiv 4).tdiv 8 := by unfold rtr; rw [if_pos (by simpa using h)]
  rw [e, w3, w4]
 ·refine Sat.skip ?_
  simp only [thenK]
  (repeat refine Sat.seq ?_)
  (refine Sat.region_k fun k hk => ?_; simp -implicitDefEqProofs only [evr, id, reduceCtorEq, reduceIte, Nat.reduceMul, Nat.reduceAdd, Nat.reduceLT, Nat.reduceLeDiff, Nat.reduceEqDiff, Int.reduceLT, Int.reduceBEq, Int.reduceBNe, Nat.reduceBEq, exT_0, exT_1, evT_1, evT_2, ptr, nat_one, ev_one, exc_one, res_one, par_one, idn_one, idn_0, idn_1, idn_2, Int.reduceToNat, resRow, res_ro, rExtract_tup, evn])
  refine ⟨by decide, by decide, ?_⟩
  (refine hk _ ?_; clear hk k; try show Sat _ _ _ _ _)
  refine Sat.ret ?_
  simp only [Tryz.results38, evr, id, reduceCtorEq, reduceIte, Nat.reduceMul, Nat.reduceAdd, Nat.reduceLT, Nat.reduceLeDiff, Nat.reduceEqDiff, Int.reduceLT, Int.reduceBEq, Int.reduceBNe, Nat.reduceBEq, exT_0, exT_1, evT_1, evT_2, ptr, nat_one, ev_one, exc_one, res_one, par_one, idn_one, idn_0, idn_1, idn_2, List.append_nil, Int.toNat_zero, Nat.sub_self, Int.reduceToNat, resRow, res_ro, rExtract_tup]
  have e : rtr a = ((a - 167772160).tdiv 4).tmod 8 := by unfold rtr; rw [if_neg (by simpa using h)]
  rw [e, w3]
theorem TruR.rg {Ps : Nat → List Nat} (hP : ∀ f, PathOk (Ps f)) {r : Res} (h : TruR Ps r) : 167772160 ≤ r.from_ ∧ r.from_ ≤ 167773000 := by
 obtain ⟨n, hn, ⟨f, i, hf, hi, hi5, e⟩ | ⟨k, a, h1, h2, h3, h4, e⟩⟩ := h
 ·have h5 := (hP f).ahd_lt hi
  have h6 := (hP f).rg hi
  have h7 := lnk_rg (p := ahd (Ps f) i) (q := (Ps f).getD i 0) (by omega) (by omega)
  have : r.from_ = lnk (ahd (Ps f) i) ((Ps f).getD i 0) + 2 := by rw [e]; rfl
  omega
 ·have h7 := lnk_rg (p := a) (q := a + 1) (by omega) (by omega)
  have : r.from_ = lnk a (a + 1) + 1 := by rw [e]; rfl
  omega
theorem exc_rg {Ps : Nat → List Nat} (hP : ∀ f, PathOk (Ps f)) {xs : List Res} (h : TruL Ps xs) {x : Exc} (hx : ExcC xs x) : (167772160 ≤ x.a ∧ x.a ≤ 167773000) ∧ 167772160 ≤ x.b ∧ x.b ≤ 167773000 := by
 obtain ⟨p, hp, a, ha, b, hb, _, _, _, _, rfl⟩ := hx
 exact ⟨(h.all a (hp.sub a ha).1).rg hP, (h.all b (hp.sub b hb).1).rg hP⟩
theorem mat_rg {Ps : Nat → List Nat} (hP : ∀ f, PathOk (Ps f)) {xs : List Res} (h : TruL Ps xs) {e : Evd} (he : MatC xs e) : (167772160 ≤ e.a ∧ e.a ≤ 167773000) ∧ 167772160 ≤ e.b ∧ e.b ≤ 167773000 := by
 obtain ⟨p, hp, a, ha, b, hb, _, c, hc, _, _, _, hE⟩ := he
 obtain ⟨_, g2, g3, _⟩ := hE
 have h1 := (h.all a (hp.sub a ha).1).rg hP
 have h2 := (h.all c hc).rg hP
 rw [g2, g3]
 omega
theorem res_appT {ys : List Res} {x : Res} {cs : List SV} (h : cs = Res.cs x) : rdEq (ys.length + 1) 17 (rdCat ys.length (resRd ys.toArray) (rdL cs 17)) (resRd (ys ++ [x]).toArray) := res_appX h
theorem lnk12 : lnk 1 2 = 167772200 := by decide
theorem mate12 : mateOf 167772201 30 = (167772202, 0) := by decide +kernel
set_option maxHeartbeats 2000000 in
set_option maxRecDepth 100000 in
theorem truthC (a : Option Addr) (cap : Nat) (z : List Int) (hz : ∀ n ∈ z, (Lit.int .u8 n).wf = true) : Contract Frm.nil Tryz.prog 6 [slB a cap z] (fun r => r = .b true) := by
 have hb : isBytes (slB a cap z) := ⟨a, z.length, cap, _, rfl, fun i hi => ⟨z.getD i 0, by have := bounds_u8 (hz _ (getD_mem (d := 0) hi)); omega, by have := bounds_u8 (hz _ (getD_mem (d := 0) hi)); omega, rfl⟩⟩
 refine contract_of Tryz.func6 rfl (by kernel_rfl) ?_
 simp only [Tryz.ntmps6, argEnv]
 (repeat refine Sat.seq ?_)
 (refine Sat.region_k fun k hk => ?_; simp -implicitDefEqProofs only [evr, id, reduceCtorEq, reduceIte, Nat.reduceMul, Nat.reduceAdd, Nat.reduceLT, Nat.reduceLeDiff, Nat.reduceEqDiff, Int.reduceLT, Int.reduceBEq, Int.reduceBNe, Nat.reduceBEq, exT_0, exT_1, evT_1, evT_2, ptr, nat_one, ev_one, exc_one, res_one, par_one, idn_one, idn_0, idn_1, idn_2, Int.reduceToNat, resRow, res_ro, rExtract_tup, evn]; refine hk _ ?_; clear hk k; try show Sat _ _ _ _ _)
 (repeat refine Sat.seq ?_)
 (refine Sat.region_k fun k hk => ?_; simp -implicitDefEqProofs only [evr, id, reduceCtorEq, reduceIte, Nat.reduceMul, Nat.reduceAdd, Nat.reduceLT, Nat.reduceLeDiff, Nat.reduceEqDiff, Int.reduceLT, Int.reduceBEq, Int.reduceBNe, Nat.reduceBEq, exT_0, exT_1, evT_1, evT_2, ptr, nat_one, ev_one, exc_one, res_one, par_one, idn_one, idn_0, idn_1, idn_2, Int.reduceToNat, resRow, res_ro, rExtract_tup, evn])
 refine wcall_plain (awakeC Frm.nil) rfl (by rintro _ rfl; exact ok_plain rfl) ?_
 rintro r rfl
 simp -implicitDefEqProofs only [evr, id, reduceCtorEq, reduceIte, Nat.reduceMul, Nat.reduceAdd, Nat.reduceLT, Nat.reduceLeDiff, Nat.reduceEqDiff, Int.reduceLT, Int.reduceBEq, Int.reduceBNe, Nat.reduceBEq, exT_0, exT_1, evT_1, evT_2, ptr, nat_one, ev_one, exc_one, res_one, par_one, idn_one, idn_0, idn_1, idn_2, Int.reduceToNat, resRow, res_ro, rExtract_tup, evn]
 (refine hk _ ?_; clear hk k; try show Sat _ _ _ _ _)
 refine Sat.cond_b rfl (fun h => absurd h (by decide)) (fun _ => ?_)
 refine Sat.skip ?_
 simp only [thenK]
 refine Sat.seq ?_
 (refine Sat.region_k fun k hk => ?_; simp -implicitDefEqProofs only [evr, id, reduceCtorEq, reduceIte, Nat.reduceMul, Nat.reduceAdd, Nat.reduceLT, Nat.reduceLeDiff, Nat.reduceEqDiff, Int.reduceLT, Int.reduceBEq, Int.reduceBNe, Nat.reduceBEq, exT_0, exT_1, evT_1, evT_2, ptr, nat_one, ev_one, exc_one, res_one, par_one, idn_one, idn_0, idn_1, idn_2, Int.reduceToNat, resRow, res_ro, rExtract_tup, evn])
 refine wcall_make (rollC (slB a cap z) hb) ?_
 intro cb
 simp -implicitDefEqProofs only [evr, id, reduceCtorEq, reduceIte, Nat.reduceMul, Nat.reduceAdd, Nat.reduceLT, Nat.reduceLeDiff, Nat.reduceEqDiff, Int.reduceLT, Int.reduceBEq, Int.reduceBNe, Nat.reduceBEq, exT_0, exT_1, evT_1, evT_2, ptr, nat_one, ev_one, exc_one, res_one, par_one, idn_one, idn_0, idn_1, idn_2, Int.reduceToNat, resRow, res_ro, rExtract_tup, evn]
 (refine hk _ ?_; clear hk k; try show Sat _ _ _ _ _)
 refine Sat.switch (cb := cb) (id := 0) (F' := Frm.codes cb) (fun b => Iff.rfl) (fun _ h => h) rfl ?_
 (repeat refine Sat.seq ?_)
 (refine Sat.region_k fun k hk => ?_; simp -implicitDefEqProofs only [evr, id, reduceCtorEq, reduceIte, Nat.reduceMul, Nat.reduceAdd, Nat.reduceLT, Nat.reduceLeDiff, Nat.reduceEqDiff, Int.reduceLT, Int.reduceBEq, Int.reduceBNe, Nat.reduceBEq, exT_0, exT_1, evT_1, evT_2, ptr, nat_one, ev_one, exc_one, res_one, par_one, idn_one, idn_0, idn_1, idn_2, Int.reduceToNat, resRow, res_ro, rExtract_tup, evn]; refine hk _ ?_; clear hk k; try show Sat _ _ _ _ _)
 (repeat refine Sat.seq ?_)
 (refine Sat.region_k fun k hk => ?_; simp -implicitDefEqProofs only [evr, id, reduceCtorEq, reduceIte, Nat.reduceMul, Nat.reduceAdd, Nat.reduceLT, Nat.reduceLeDiff, Nat.reduceEqDiff, Int.reduceLT, Int.reduceBEq, Int.reduceBNe, Nat.reduceBEq, exT_0, exT_1, evT_1, evT_2, ptr, nat_one, ev_one, exc_one, res_one, par_one, idn_one, idn_0, idn_1, idn_2, Int.reduceToNat, resRow, res_ro, rExtract_tup, evn]; refine hk _ ?_; clear hk k; try show Sat _ _ _ _ _)
 refine Sat.adopt 5 62 17 (resRd #[]) rfl ?_
 (repeat refine Sat.seq ?_)
 (refine Sat.region_k fun k hk => ?_; simp -implicitDefEqProofs only [evr, id, reduceCtorEq, reduceIte, Nat.reduceMul, Nat.reduceAdd, Nat.reduceLT, Nat.reduceLeDiff, Nat.reduceEqDiff, Int.reduceLT, Int.reduceBEq, Int.reduceBNe, Nat.reduceBEq, exT_0, exT_1, evT_1, evT_2, ptr, nat_one, ev_one, exc_one, res_one, par_one, idn_one, idn_0, idn_1, idn_2, Int.reduceToNat, resRow, res_ro, rExtract_tup, evn]; refine hk _ ?_; clear hk k; try show Sat _ _ _ _ _)
 (repeat refine Sat.seq ?_)
 refine Sat.block ?_
 refine Sat.loop (ι := Nat × List Res × Option Addr × Nat × (Nat → List Nat)) (fun z => ⟨172, [(6, .i .i64 z.1), (5, .os 0 z.2.2.1 z.2.1.length z.2.2.2.1), (4, .fn 36 0 fun _ => default), (3, .v (.pointer (some ⟨cb, 0, none⟩)))], [resRow z.2.2.1 z.2.1.length z.2.2.2.1 z.2.1.toArray]⟩)
  (fun z => z.1 ≤ 3 ∧ TruL z.2.2.2.2 z.2.1 ∧ (∀ g, PathOk (z.2.2.2.2 g)) ∧ z.2.1.length ≤ 5 * z.1 ∧ ∀ r ∈ z.2.1, r.flow < z.1) (fun z => 3 - z.1) (0, [], none, 0, fun _ => [])
  ⟨by decide, ⟨fun r hr => (by cases hr), fun r hr => (by cases hr)⟩, fun g => PathOk.nil, by decide, fun r hr => (by cases hr)⟩ (by
   simp only [resRow, List.length_nil]
   simp -implicitDefEqProofs only [evr, id, reduceCtorEq, reduceIte, Nat.reduceMul, Nat.reduceAdd, Nat.reduceLT, Nat.reduceLeDiff, Nat.reduceEqDiff, Int.reduceLT, Int.reduceBEq, Int.reduceBNe, Nat.reduceBEq, exT_0, exT_1, evT_1, evT_2, ptr, nat_one, ev_one, exc_one, res_one, par_one, idn_one, idn_0, idn_1, idn_2, Int.reduceToNat, resRow, res_ro, rExtract_tup, evl, evn]
   rfl) ?_
 rintro ⟨f, xs, oa, oc, Ps⟩ ⟨hf, hT, hP, hxl, hfl⟩
 simp only [resRow] at hf hT hP hxl hfl ⊢
 (repeat refine Sat.seq ?_)
 (refine Sat.region_k fun k hk => ?_; simp -implicitDefEqProofs only [evr, id, reduceCtorEq, reduceIte, Nat.reduceMul, Nat.reduceAdd, Nat.reduceLT, Nat.reduceLeDiff, Nat.reduceEqDiff, Int.reduceLT, Int.reduceBEq, Int.reduceBNe, Nat.reduceBEq, exT_0, exT_1, evT_1, evT_2, ptr, nat_one, ev_one, exc_one, res_one, par_one, idn_one, idn_0, idn_1, idn_2, Int.reduceToNat, resRow, res_ro, rExtract_tup, evn]; refine hk _ ?_; clear hk k; try show Sat _ _ _ _ _)
 (repeat refine Sat.seq ?_)
 refine Sat.cond_b rfl (fun h => ?_) (fun h => ?_)
 ·have hf3 : f < 3 := by simp only [decide_eq_true_eq] at h; omega
  have ef : IntKind.i64.wrap ((f : Int) + 1) = ((f + 1 : Nat) : Int) := by rw [w64 (by omega)]; omega
  refine Sat.skip ?_
  simp only [thenK]
  (repeat refine Sat.seq ?_)
  refine Sat.block ?_
  (repeat refine Sat.seq ?_)
  (refine Sat.region_k fun k hk => ?_; simp -implicitDefEqProofs only [evr, id, reduceCtorEq, reduceIte, Nat.reduceMul, Nat.reduceAdd, Nat.reduceLT, Nat.reduceLeDiff, Nat.reduceEqDiff, Int.reduceLT, Int.reduceBEq, Int.reduceBNe, Nat.reduceBEq, exT_0, exT_1, evT_1, evT_2, ptr, nat_one, ev_one, exc_one, res_one, par_one, idn_one, idn_0, idn_1, idn_2, Int.reduceToNat, resRow, res_ro, rExtract_tup, evn]; refine hk _ ?_; clear hk k; try show Sat _ _ _ _ _)
  refine Sat.adopt 7 3 1 (natRd []) rfl ?_
  (repeat refine Sat.seq ?_)
  (refine Sat.region_k fun k hk => ?_; simp -implicitDefEqProofs only [evr, id, reduceCtorEq, reduceIte, Nat.reduceMul, Nat.reduceAdd, Nat.reduceLT, Nat.reduceLeDiff, Nat.reduceEqDiff, Int.reduceLT, Int.reduceBEq, Int.reduceBNe, Nat.reduceBEq, exT_0, exT_1, evT_1, evT_2, ptr, nat_one, ev_one, exc_one, res_one, par_one, idn_one, idn_0, idn_1, idn_2, Int.reduceToNat, resRow, res_ro, rExtract_tup, evn]; refine hk _ ?_; clear hk k; try show Sat _ _ _ _ _)
  (repeat refine Sat.seq ?_)
  refine Sat.block ?_
  refine Sat.loop (ι := Nat × List Nat × Option Addr × Nat) (fun z => ⟨172, [(8, .i .i64 z.1), (7, .os 1 z.2.2.1 z.2.1.length z.2.2.2), (6, .i .i64 f), (5, .os 0 oa xs.length oc), (4, .fn 36 0 fun _ => default), (3, .v (.pointer (some ⟨cb, 0, none⟩)))], [.row oa 62 xs.length oc 17 (resRd xs.toArray), .row z.2.2.1 3 z.2.1.length z.2.2.2 1 (natRd z.2.1)]⟩)
   (fun z => 1 ≤ z.1 ∧ z.1 ≤ 6 ∧ PathOk z.2.1 ∧ (∀ x ∈ z.2.1, x < z.1) ∧ z.2.1.length < z.1) (fun z => 6 - z.1) (1, [], none, 0) ⟨by decide, by decide, PathOk.nil, fun x hx => (by cases hx), by decide⟩ (by
    simp only [List.length_nil]
    simp -implicitDefEqProofs only [evr, id, reduceCtorEq, reduceIte, Nat.reduceMul, Nat.reduceAdd, Nat.reduceLT, Nat.reduceLeDiff, Nat.reduceEqDiff, Int.reduceLT, Int.reduceBEq, Int.reduceBNe, Nat.reduceBEq, exT_0, exT_1, evT_1, evT_2, ptr, nat_one, ev_one, exc_one, res_one, par_one, idn_one, idn_0, idn_1, idn_2, Int.reduceToNat, resRow, res_ro, rExtract_tup, evl, evn]
    first | done | exact ⟨rfl, rfl⟩ | rfl | trace_state) ?_
  rintro ⟨q, P, pa, pc⟩ ⟨hq1, hq6, hPo, hPl, hPn⟩
  simp only at hq1 hq6 hPo hPl hPn ⊢
  (repeat refine Sat.seq ?_)
  (refine Sat.region_k fun k hk => ?_; simp -implicitDefEqProofs only [evr, id, reduceCtorEq, reduceIte, Nat.reduceMul, Nat.reduceAdd, Nat.reduceLT, Nat.reduceLeDiff, Nat.reduceEqDiff, Int.reduceLT, Int.reduceBEq, Int.reduceBNe, Nat.reduceBEq, exT_0, exT_1, evT_1, evT_2, ptr, nat_one, ev_one, exc_one, res_one, par_one, idn_one, idn_0, idn_1, idn_2, Int.reduceToNat, resRow, res_ro, rExtract_tup, evn]; refine hk _ ?_; clear hk k; try show Sat _ _ _ _ _)
  (repeat refine Sat.seq ?_)
  refine Sat.cond_b rfl (fun h2 => ?_) (fun h2 => ?_)
  ·have hq5 : q < 6 := by simp only [decide_eq_true_eq] at h2; omega
   have eq1 : IntKind.i64.wrap ((q : Int) + 1) = ((q + 1 : Nat) : Int) := by rw [w64 (by omega)]; omega
   refine Sat.skip ?_
   simp only [thenK]
   (repeat refine Sat.seq ?_)
   refine Sat.block ?_
   (repeat refine Sat.seq ?_)
   refine Sat.atF (ι := Bool) (fun v => ⟨172, [(41, .b v), (8, .i .i64 q), (7, .os 1 pa P.length pc), (6, .i .i64 f), (5, .os 0 oa xs.length oc), (4, .fn 36 0 fun _ => default), (3, .v (.pointer (some ⟨cb, 0, none⟩)))], [.row oa 62 xs.length oc 17 (resRd xs.toArray), .row pa 3 P.length pc 1 (natRd P)]⟩) (fun _ => True) ?_ ?_
   ·(refine Sat.region_k fun k hk => ?_; simp -implicitDefEqProofs only [evr, id, reduceCtorEq, reduceIte, Nat.reduceMul, Nat.reduceAdd, Nat.reduceLT, Nat.reduceLeDiff, Nat.reduceEqDiff, Int.reduceLT, Int.reduceBEq, Int.reduceBNe, Nat.reduceBEq, exT_0, exT_1, evT_1, evT_2, ptr, nat_one, ev_one, exc_one, res_one, par_one, idn_one, idn_0, idn_1, idn_2, Int.reduceToNat, resRow, res_ro, rExtract_tup, evn])
    refine wcall_plain (boolC cb 2 (by decide) (by decide)) rfl (by rintro _ ⟨b, rfl⟩; exact ok_plain rfl) ?_
    rintro _ ⟨b0, rfl⟩
    simp -implicitDefEqProofs only [evr, id, reduceCtorEq, reduceIte, Nat.reduceMul, Nat.reduceAdd, Nat.reduceLT, Nat.reduceLeDiff, Nat.reduceEqDiff, Int.reduceLT, Int.reduceBEq, Int.reduceBNe, Nat.reduceBEq, exT_0, exT_1, evT_1, evT_2, ptr, nat_one, ev_one, exc_one, res_one, par_one, idn_one, idn_0, idn_1, idn_2, Int.reduceToNat, resRow, res_ro, rExtract_tup, evn]
    refine ⟨fun h3 => hk _ ?_, fun h3 => hk _ ?_⟩
    ·simp only [thenK]
     refine ⟨true, trivial, ?_⟩
     simp -implicitDefEqProofs only [evr, id, reduceCtorEq, reduceIte, Nat.reduceMul, Nat.reduceAdd, Nat.reduceLT, Nat.reduceLeDiff, Nat.reduceEqDiff, Int.reduceLT, Int.reduceBEq, Int.reduceBNe, Nat.reduceBEq, exT_0, exT_1, evT_1, evT_2, ptr, nat_one, ev_one, exc_one, res_one, par_one, idn_one, idn_0, idn_1, idn_2, Int.reduceToNat, resRow, res_ro, rExtract_tup, evl, evn]
    ·simp only [thenK]
     refine ⟨((q : Int) == 1), trivial, ?_⟩
     simp -implicitDefEqProofs only [evr, id, reduceCtorEq, reduceIte, Nat.reduceMul, Nat.reduceAdd, Nat.reduceLT, Nat.reduceLeDiff, Nat.reduceEqDiff, Int.reduceLT, Int.reduceBEq, Int.reduceBNe, Nat.reduceBEq, exT_0, exT_1, evT_1, evT_2, ptr, nat_one, ev_one, exc_one, res_one, par_one, idn_one, idn_0, idn_1, idn_2, Int.reduceToNat, resRow, res_ro, rExtract_tup, evl, evn]
   rintro v -
   simp only [thenK]
   (repeat refine Sat.seq ?_)
   refine Sat.atF (ι := List Nat × Option Addr × Nat) (fun z => ⟨172, [(8, .i .i64 q), (7, .os 1 z.2.1 z.1.length z.2.2), (6, .i .i64 f), (5, .os 0 oa xs.length oc), (4, .fn 36 0 fun _ => default), (3, .v (.pointer (some ⟨cb, 0, none⟩)))], [.row oa 62 xs.length oc 17 (resRd xs.toArray), .row z.2.1 3 z.1.length z.2.2 1 (natRd z.1)]⟩) (fun z => PathOk z.1 ∧ (∀ x ∈ z.1, x < q + 1) ∧ z.1.length < q + 1) ?_ ?_
   ·refine Sat.cond_b rfl (fun h3 => ?_) (fun h3 => ?_)
    ·(repeat refine Sat.seq ?_)
     (refine Sat.region_k fun k hk => ?_; simp -implicitDefEqProofs only [evr, id, reduceCtorEq, reduceIte, Nat.reduceMul, Nat.reduceAdd, Nat.reduceLT, Nat.reduceLeDiff, Nat.reduceEqDiff, Int.reduceLT, Int.reduceBEq, Int.reduceBNe, Nat.reduceBEq, exT_0, exT_1, evT_1, evT_2, ptr, nat_one, ev_one, exc_one, res_one, par_one, idn_one, idn_0, idn_1, idn_2, Int.reduceToNat, resRow, res_ro, rExtract_tup, evn])
     refine fun bz => ⟨⟨by unfold maxLen; omega, by omega⟩, fun a2 c2 => hk _ ?_⟩
     simp only [thenK]
     refine ⟨(P ++ [q], a2, c2), ⟨hPo.snoc hPl hq1 (by omega), fun x hx => ?_, by simp only [List.length_append, List.length_singleton]; omega⟩, ?_⟩
     ·rcases List.mem_append.1 hx with hx | hx
      ·have := hPl x hx; omega
      ·rw [List.mem_singleton] at hx; omega
     ·simp only [List.length_append, List.length_singleton]
      simp -implicitDefEqProofs only [evr, id, reduceCtorEq, reduceIte, Nat.reduceMul, Nat.reduceAdd, Nat.reduceLT, Nat.reduceLeDiff, Nat.reduceEqDiff, Int.reduceLT, Int.reduceBEq, Int.reduceBNe, Nat.reduceBEq, exT_0, exT_1, evT_1, evT_2, ptr, nat_one, ev_one, exc_one, res_one, par_one, idn_one, idn_0, idn_1, idn_2, Int.reduceToNat, resRow, res_ro, rExtract_tup, evl, evn]
      exact nat_app rfl
    ·refine Sat.skip ?_
     simp only [thenK]
     refine ⟨(P, pa, pc), ⟨hPo, fun x hx => by have := hPl x hx; omega, by simp only; omega⟩, ?_⟩
     simp -implicitDefEqProofs only [evr, id, reduceCtorEq, reduceIte, Nat.reduceMul, Nat.reduceAdd, Nat.reduceLT, Nat.reduceLeDiff, Nat.reduceEqDiff, Int.reduceLT, Int.reduceBEq, Int.reduceBNe, Nat.reduceBEq, exT_0, exT_1, evT_1, evT_2, ptr, nat_one, ev_one, exc_one, res_one, par_one, idn_one, idn_0, idn_1, idn_2, Int.reduceToNat, resRow, res_ro, rExtract_tup, evl, evn]
   rintro ⟨P2, pa2, pc2⟩ ⟨k1, k2, k3⟩
   simp only [thenK, blockK, reduceIte] at k1 k2 k3 ⊢
   refine Sat.region_k fun kk hk => ?_
   simp -implicitDefEqProofs only [evr, id, reduceCtorEq, reduceIte, Nat.reduceMul, Nat.reduceAdd, Nat.reduceLT, Nat.reduceLeDiff, Nat.reduceEqDiff, Int.reduceLT, Int.reduceBEq, Int.reduceBNe, Nat.reduceBEq, exT_0, exT_1, evT_1, evT_2, ptr, nat_one, ev_one, exc_one, res_one, par_one, idn_one, idn_0, idn_1, idn_2, Int.reduceToNat, resRow, res_ro, rExtract_tup, eq1, evn]
   refine hk _ ?_
   simp only [thenK, blockK]
   refine ⟨(q + 1, P2, pa2, pc2), ⟨by simp only; omega, by simp only; omega, k1, k2, k3⟩, by simp only; omega, ?_⟩
   simp -implicitDefEqProofs only [evr, id, reduceCtorEq, reduceIte, Nat.reduceMul, Nat.reduceAdd, Nat.reduceLT, Nat.reduceLeDiff, Nat.reduceEqDiff, Int.reduceLT, Int.reduceBEq, Int.reduceBNe, Nat.reduceBEq, exT_0, exT_1, evT_1, evT_2, ptr, nat_one, ev_one, exc_one, res_one, par_one, idn_one, idn_0, idn_1, idn_2, Int.reduceToNat, resRow, res_ro, rExtract_tup, evl, evn]
  have hq : q = 6 := by simp only [decide_eq_false_iff_not] at h2; omega
  subst hq
  refine Sat.exit ?_
  simp only [thenK, blockK, reduceIte]
  refine Sat.settleLastRow [.row oa 62 xs.length oc 17 (resRd xs.toArray)] 7 rfl ?_
  have hT2 := hT.upd hf3 hfl P
  have hP2 := updP_ok hP (f := f) hPo
  have hat := updP_at Ps f P
  (repeat refine Sat.seq ?_)
  (refine Sat.region_k fun k hk => ?_; simp -implicitDefEqProofs only [evr, id, reduceCtorEq, reduceIte, Nat.reduceMul, Nat.reduceAdd, Nat.reduceLT, Nat.reduceLeDiff, Nat.reduceEqDiff, Int.reduceLT, Int.reduceBEq, Int.reduceBNe, Nat.reduceBEq, exT_0, exT_1, evT_1, evT_2, ptr, nat_one, ev_one, exc_one, res_one, par_one, idn_one, idn_0, idn_1, idn_2, Int.reduceToNat, resRow, res_ro, rExtract_tup, evn]; refine hk _ ?_; clear hk k; try show Sat _ _ _ _ _)
  (repeat refine Sat.seq ?_)
  (refine Sat.region_k fun k hk => ?_; simp -implicitDefEqProofs only [evr, id, reduceCtorEq, reduceIte, Nat.reduceMul, Nat.reduceAdd, Nat.reduceLT, Nat.reduceLeDiff, Nat.reduceEqDiff, Int.reduceLT, Int.reduceBEq, Int.reduceBNe, Nat.reduceBEq, exT_0, exT_1, evT_1, evT_2, ptr, nat_one, ev_one, exc_one, res_one, par_one, idn_one, idn_0, idn_1, idn_2, Int.reduceToNat, resRow, res_ro, rExtract_tup, evn]; refine hk _ ?_; clear hk k; try show Sat _ _ _ _ _)
  (repeat refine Sat.seq ?_)
  refine Sat.block ?_
  refine Sat.loop (ι := Nat × List Res × Option Addr × Nat) (fun z => ⟨172, [(48, .i .i64 z.1), (47, .i .i64 P.length), (46, .sl pa P.length pc 1 (natRd P)), (9, .i .i64 (ahd P z.1)), (6, .i .i64 f), (5, .os 0 z.2.2.1 z.2.1.length z.2.2.2), (4, .fn 36 0 fun _ => default), (3, .v (.pointer (some ⟨cb, 0, none⟩)))], [resRow z.2.2.1 z.2.1.length z.2.2.2 z.2.1.toArray]⟩)
   (fun z => z.1 ≤ P.length ∧ TruL (updP Ps f P) z.2.1 ∧ z.2.1.length ≤ xs.length + z.1 ∧ ∀ r ∈ z.2.1, r.flow < ((f + 1 : Nat) : Int)) (fun z => P.length - z.1) (0, xs, oa, oc)
   ⟨Nat.zero_le _, hT2, Nat.le_refl _, fun r hr => by have := hfl r hr; omega⟩ (by
    simp only [resRow]
    simp -implicitDefEqProofs only [evr, id, reduceCtorEq, reduceIte, Nat.reduceMul, Nat.reduceAdd, Nat.reduceLT, Nat.reduceLeDiff, Nat.reduceEqDiff, Int.reduceLT, Int.reduceBEq, Int.reduceBNe, Nat.reduceBEq, exT_0, exT_1, evT_1, evT_2, ptr, nat_one, ev_one, exc_one, res_one, par_one, idn_one, idn_0, idn_1, idn_2, Int.reduceToNat, resRow, res_ro, rExtract_tup, evl, evn]
    first | done | rfl | exact ⟨rfl, rfl⟩ | trace_state) ?_
  rintro ⟨i, ys, oa2, oc2⟩ ⟨hi, hT3, hyl, hyf⟩
  simp only [resRow] at hi hT3 hyl hyf ⊢
  (repeat refine Sat.seq ?_)
  (refine Sat.region_k fun k hk => ?_; simp -implicitDefEqProofs only [evr, id, reduceCtorEq, reduceIte, Nat.reduceMul, Nat.reduceAdd, Nat.reduceLT, Nat.reduceLeDiff, Nat.reduceEqDiff, Int.reduceLT, Int.reduceBEq, Int.reduceBNe, Nat.reduceBEq, exT_0, exT_1, evT_1, evT_2, ptr, nat_one, ev_one, exc_one, res_one, par_one, idn_one, idn_0, idn_1, idn_2, Int.reduceToNat, resRow, res_ro, rExtract_tup, evn]; refine hk _ ?_; clear hk k; try show Sat _ _ _ _ _)
  (repeat refine Sat.seq ?_)
  refine Sat.cond_b rfl (fun h2 => ?_) (fun h2 => ?_)
  ·have hlt : i < P.length := by simp only [decide_eq_true_eq] at h2; omega
   have e1 : IntKind.i64.wrap ((i : Int) + 1) = ((i + 1 : Nat) : Int) := by rw [w64 (by omega)]; omega
   have g1 := hPo.ahd_lt hlt
   have g2 := hPo.rg hlt
   have g3 := lnk_rg (p := ahd P i) (q := P.getD i 0) (by omega) (by omega)
   have hah : ahd P (i + 1) = P.getD i 0 := by unfold ahd; rw [if_neg (by omega)]; rfl
   have w1 : IntKind.u32.wrap (lnk (ahd P i) (P.getD i 0) + 2) = lnk (ahd P i) (P.getD i 0) + 2 := by rw [IntKind.wrap_u32]; omega
   have w2 : IntKind.i64.wrap ((i : Int) + 1) = (i : Int) + 1 := w64 (by omega)
   have q8 : natRd P i 0 = .i .i64 ((P.getD i 0 : Nat) : Int) := rfl
   refine Sat.skip ?_
   simp only [thenK]
   (repeat refine Sat.seq ?_)
   refine Sat.block ?_
   (repeat refine Sat.seq ?_)
   refine Sat.region_k fun k hk => ?_
   simp -implicitDefEqProofs only [evr, id, reduceCtorEq, reduceIte, Nat.reduceMul, Nat.reduceAdd, Nat.reduceLT, Nat.reduceLeDiff, Nat.reduceEqDiff, Int.reduceLT, Int.reduceBEq, Int.reduceBNe, Nat.reduceBEq, exT_0, exT_1, evT_1, evT_2, ptr, nat_one, ev_one, exc_one, res_one, par_one, idn_one, idn_0, idn_1, idn_2, Int.reduceToNat, resRow, res_ro, rExtract_tup, q8, evn]
   refine ⟨by omega, ?_⟩
   (refine hk _ ?_; clear hk k; try show Sat _ _ _ _ _)
   (repeat refine Sat.seq ?_)
   (refine Sat.region_k fun k hk => ?_; simp -implicitDefEqProofs only [evr, id, reduceCtorEq, reduceIte, Nat.reduceMul, Nat.reduceAdd, Nat.reduceLT, Nat.reduceLeDiff, Nat.reduceEqDiff, Int.reduceLT, Int.reduceBEq, Int.reduceBNe, Nat.reduceBEq, exT_0, exT_1, evT_1, evT_2, ptr, nat_one, ev_one, exc_one, res_one, par_one, idn_one, idn_0, idn_1, idn_2, Int.reduceToNat, resRow, res_ro, rExtract_tup, evn])
   refine wcall_plain (boolC cb 4 (by decide) (by decide)) rfl (by rintro _ ⟨b, rfl⟩; exact ok_plain rfl) ?_
   rintro _ ⟨b0, rfl⟩
   simp -implicitDefEqProofs only [evr, id, reduceCtorEq, reduceIte, Nat.reduceMul, Nat.reduceAdd, Nat.reduceLT, Nat.reduceLeDiff, Nat.reduceEqDiff, Int.reduceLT, Int.reduceBEq, Int.reduceBNe, Nat.reduceBEq, exT_0, exT_1, evT_1, evT_2, ptr, nat_one, ev_one, exc_one, res_one, par_one, idn_one, idn_0, idn_1, idn_2, Int.reduceToNat, resRow, res_ro, rExtract_tup, evn]
   (refine hk _ ?_; clear hk k; try show Sat _ _ _ _ _)
   (repeat refine Sat.seq ?_)
   refine Sat.atF (ι := List Res × Option Addr × Nat) (fun z => ⟨172, [(11, .i .i64 ((P.getD i 0 : Nat) : Int)), (48, .i .i64 i), (47, .i .i64 P.length), (46, .sl pa P.length pc 1 (natRd P)), (6, .i .i64 f), (5, .os 0 z.2.1 z.1.length z.2.2), (4, .fn 36 0 fun _ => default), (3, .v (.pointer (some ⟨cb, 0, none⟩)))], [resRow z.2.1 z.1.length z.2.2 z.1.toArray]⟩)
    (fun z => TruL (updP Ps f P) z.1 ∧ z.1.length ≤ xs.length + (i + 1) ∧ ∀ r ∈ z.1, r.flow < ((f + 1 : Nat) : Int)) ?_ ?_
   ·refine Sat.cond_b rfl (fun h3 => ?_) (fun h3 => ?_)
    ·refine Sat.region_k fun k hk => ?_
     simp -implicitDefEqProofs only [evr, id, reduceCtorEq, reduceIte, Nat.reduceMul, Nat.reduceAdd, Nat.reduceLT, Nat.reduceLeDiff, Nat.reduceEqDiff, Int.reduceLT, Int.reduceBEq, Int.reduceBNe, Nat.reduceBEq, exT_0, exT_1, evT_1, evT_2, ptr, nat_one, ev_one, exc_one, res_one, par_one, idn_one, idn_0, idn_1, idn_2, Int.reduceToNat, resRow, res_ro, rExtract_tup, w2, evn]
     refine wcall_plain (lnkC (Frm.codes cb) (ahd P i) (P.getD i 0) (by omega) (by omega)) rfl (by rintro _ rfl; exact ok_plain rfl) ?_
     rintro _ rfl
     simp -implicitDefEqProofs only [evr, id, reduceCtorEq, reduceIte, Nat.reduceMul, Nat.reduceAdd, Nat.reduceLT, Nat.reduceLeDiff, Nat.reduceEqDiff, Int.reduceLT, Int.reduceBEq, Int.reduceBNe, Nat.reduceBEq, exT_0, exT_1, evT_1, evT_2, ptr, nat_one, ev_one, exc_one, res_one, par_one, idn_one, idn_0, idn_1, idn_2, Int.reduceToNat, resRow, res_ro, rExtract_tup, w1, evn]
     refine wcall_plain (replyC (Frm.codes cb) (ys.length : Int) (f : Int) ((i : Int) + 1) (lnk (ahd P i) (P.getD i 0) + 2) (by omega) (by omega)) rfl (by rintro _ rfl; exact resAg_ok _) ?_
     rintro _ rfl
     simp only [resAg, Res.cs, rplR, evr, id, reduceCtorEq, reduceIte, Nat.reduceMul, Nat.reduceAdd, Nat.reduceLT, Nat.reduceLeDiff, Nat.reduceEqDiff, Int.reduceLT, Int.reduceBEq, Int.reduceBNe, Nat.reduceBEq, exT_0, exT_1, evT_1, evT_2, ptr, nat_one, ev_one, exc_one, res_one, par_one, idn_one, idn_0, idn_1, idn_2, List.append_nil, Int.toNat_zero, Nat.sub_self, Int.reduceToNat, resRow, res_ro, rExtract_tup]
     refine fun bz => ⟨⟨by unfold maxLen; omega, by omega⟩, fun a2 c2 => hk _ ?_⟩
     have hs := hT3.snoc1 (f := f) (i := i) (n := ys.length) (by have := hPn; omega) hf3 (by rw [hat]; exact hlt) (by omega)
     rw [hat] at hs
     simp only [thenK]
     refine ⟨(ys ++ [rplR ys.length f ((i : Int) + 1) (lnk (ahd P i) (P.getD i 0) + 2)], a2, c2), ⟨hs, by simp only [List.length_append, List.length_singleton]; omega, fun r hr => ?_⟩, ?_⟩
     ·rcases List.mem_append.1 hr with hr | hr
      ·exact hyf r hr
      ·rw [List.mem_singleton] at hr
       rw [hr]
       show (f : Int) < ((f + 1 : Nat) : Int)
       omega
     ·simp only [resRow, List.length_append, List.length_singleton]
      simp -implicitDefEqProofs only [evr, id, reduceCtorEq, reduceIte, Nat.reduceMul, Nat.reduceAdd, Nat.reduceLT, Nat.reduceLeDiff, Nat.reduceEqDiff, Int.reduceLT, Int.reduceBEq, Int.reduceBNe, Nat.reduceBEq, exT_0, exT_1, evT_1, evT_2, ptr, nat_one, ev_one, exc_one, res_one, par_one, idn_one, idn_0, idn_1, idn_2, Int.reduceToNat, resRow, res_ro, rExtract_tup, evl, evn]
      exact res_appT rfl
    ·refine Sat.skip ?_
     simp only [thenK]
     refine ⟨(ys, oa2, oc2), ⟨hT3, by simp only; omega, hyf⟩, ?_⟩
     simp only [resRow]
     simp -implicitDefEqProofs only [evr, id, reduceCtorEq, reduceIte, Nat.reduceMul, Nat.reduceAdd, Nat.reduceLT, Nat.reduceLeDiff, Nat.reduceEqDiff, Int.reduceLT, Int.reduceBEq, Int.reduceBNe, Nat.reduceBEq, exT_0, exT_1, evT_1, evT_2, ptr, nat_one, ev_one, exc_one, res_one, par_one, idn_one, idn_0, idn_1, idn_2, Int.reduceToNat, resRow, res_ro, rExtract_tup, evl, evn]
   rintro ⟨ys2, oa3, oc3⟩ ⟨k1, k2, k3⟩
   simp only [thenK, resRow] at k1 k2 k3 ⊢
   (repeat refine Sat.seq ?_)
   (refine Sat.region_k fun k hk => ?_; simp -implicitDefEqProofs only [evr, id, reduceCtorEq, reduceIte, Nat.reduceMul, Nat.reduceAdd, Nat.reduceLT, Nat.reduceLeDiff, Nat.reduceEqDiff, Int.reduceLT, Int.reduceBEq, Int.reduceBNe, Nat.reduceBEq, exT_0, exT_1, evT_1, evT_2, ptr, nat_one, ev_one, exc_one, res_one, par_one, idn_one, idn_0, idn_1, idn_2, Int.reduceToNat, resRow, res_ro, rExtract_tup, evn]; refine hk _ ?_; clear hk k; try show Sat _ _ _ _ _)
   try simp only [blockK, reduceIte]
   refine Sat.region_k fun kk hk => ?_
   simp -implicitDefEqProofs only [evr, id, reduceCtorEq, reduceIte, Nat.reduceMul, Nat.reduceAdd, Nat.reduceLT, Nat.reduceLeDiff, Nat.reduceEqDiff, Int.reduceLT, Int.reduceBEq, Int.reduceBNe, Nat.reduceBEq, exT_0, exT_1, evT_1, evT_2, ptr, nat_one, ev_one, exc_one, res_one, par_one, idn_one, idn_0, idn_1, idn_2, Int.reduceToNat, resRow, res_ro, rExtract_tup, e1, evn]
   refine hk _ ?_
   simp only [thenK, blockK]
   refine ⟨(i + 1, ys2, oa3, oc3), ⟨hlt, k1, k2, k3⟩, by simp only; omega, ?_⟩
   simp only [resRow, hah]
   simp -implicitDefEqProofs only [evr, id, reduceCtorEq, reduceIte, Nat.reduceMul, Nat.reduceAdd, Nat.reduceLT, Nat.reduceLeDiff, Nat.reduceEqDiff, Int.reduceLT, Int.reduceBEq, Int.reduceBNe, Nat.reduceBEq, exT_0, exT_1, evT_1, evT_2, ptr, nat_one, ev_one, exc_one, res_one, par_one, idn_one, idn_0, idn_1, idn_2, Int.reduceToNat, resRow, res_ro, rExtract_tup, evl, evn]
  have h3 : i = P.length := by simp only [decide_eq_false_iff_not] at h2; omega
  refine Sat.exit ?_
  simp only [thenK, blockK, reduceIte]
  refine Sat.region_k fun kk hk => ?_
  simp -implicitDefEqProofs only [evr, id, reduceCtorEq, reduceIte, Nat.reduceMul, Nat.reduceAdd, Nat.reduceLT, Nat.reduceLeDiff, Nat.reduceEqDiff, Int.reduceLT, Int.reduceBEq, Int.reduceBNe, Nat.reduceBEq, exT_0, exT_1, evT_1, evT_2, ptr, nat_one, ev_one, exc_one, res_one, par_one, idn_one, idn_0, idn_1, idn_2, Int.reduceToNat, resRow, res_ro, rExtract_tup, ef, evn]
  refine hk _ ?_
  simp only [thenK, blockK]
  refine ⟨(f + 1, ys, oa2, oc2, updP Ps f P), ⟨hf3, hT3, hP2, by simp only; omega, hyf⟩, by simp only; omega, ?_⟩
  simp only [resRow]
  simp -implicitDefEqProofs only [evr, id, reduceCtorEq, reduceIte, Nat.reduceMul, Nat.reduceAdd, Nat.reduceLT, Nat.reduceLeDiff, Nat.reduceEqDiff, Int.reduceLT, Int.reduceBEq, Int.reduceBNe, Nat.reduceBEq, exT_0, exT_1, evT_1, evT_2, ptr, nat_one, ev_one, exc_one, res_one, par_one, idn_one, idn_0, idn_1, idn_2, Int.reduceToNat, resRow, res_ro, rExtract_tup, evl, evn]
 have hf3 : f = 3 := by simp only [decide_eq_false_iff_not] at h; omega
 subst hf3
 refine Sat.exit ?_
 simp only [thenK, blockK, reduceIte]
 (repeat refine Sat.seq ?_)
 (refine Sat.region_k fun k hk => ?_; simp -implicitDefEqProofs only [evr, id, reduceCtorEq, reduceIte, Nat.reduceMul, Nat.reduceAdd, Nat.reduceLT, Nat.reduceLeDiff, Nat.reduceEqDiff, Int.reduceLT, Int.reduceBEq, Int.reduceBNe, Nat.reduceBEq, exT_0, exT_1, evT_1, evT_2, ptr, nat_one, ev_one, exc_one, res_one, par_one, idn_one, idn_0, idn_1, idn_2, Int.reduceToNat, resRow, res_ro, rExtract_tup, evn])
 refine wcall_plain (nextC cb 4 (by decide) (by decide)) rfl (by rintro _ ⟨x, rfl, _⟩; exact ok_plain rfl) ?_
 rintro _ ⟨x, rfl, hx0, hx1⟩
 simp -implicitDefEqProofs only [evr, id, reduceCtorEq, reduceIte, Nat.reduceMul, Nat.reduceAdd, Nat.reduceLT, Nat.reduceLeDiff, Nat.reduceEqDiff, Int.reduceLT, Int.reduceBEq, Int.reduceBNe, Nat.reduceBEq, exT_0, exT_1, evT_1, evT_2, ptr, nat_one, ev_one, exc_one, res_one, par_one, idn_one, idn_0, idn_1, idn_2, Int.reduceToNat, resRow, res_ro, rExtract_tup, evn]
 (refine hk _ ?_; clear hk k; try show Sat _ _ _ _ _)
 obtain ⟨k0, rfl⟩ : ∃ k0 : Nat, x = k0 := ⟨x.toNat, by omega⟩
 (repeat refine Sat.seq ?_)
 refine Sat.block ?_
 refine Sat.loop (ι := Nat × List Res × Option Addr × Nat) (fun z => ⟨172, [(12, .i .i64 z.1), (5, .os 0 z.2.2.1 z.2.1.length z.2.2.2), (4, .fn 36 0 fun _ => default), (3, .v (.pointer (some ⟨cb, 0, none⟩)))], [resRow z.2.2.1 z.2.1.length z.2.2.2 z.2.1.toArray]⟩)
  (fun z => z.1 ≤ 3 ∧ TruL Ps z.2.1 ∧ z.2.1.length + z.1 ≤ 18 ∧ ∀ r ∈ z.2.1, r.flow ≤ 2 ∨ 7 + (z.1 : Int) < r.flow) (fun z => z.1) (k0, xs, oa, oc)
  ⟨by simp only; omega, hT, by simp only; omega, fun r hr => by have := hfl r hr; omega⟩ (by
   simp only [resRow]
   simp -implicitDefEqProofs only [evr, id, reduceCtorEq, reduceIte, Nat.reduceMul, Nat.reduceAdd, Nat.reduceLT, Nat.reduceLeDiff, Nat.reduceEqDiff, Int.reduceLT, Int.reduceBEq, Int.reduceBNe, Nat.reduceBEq, exT_0, exT_1, evT_1, evT_2, ptr, nat_one, ev_one, exc_one, res_one, par_one, idn_one, idn_0, idn_1, idn_2, Int.reduceToNat, resRow, res_ro, rExtract_tup, evl, evn]) ?_
 clear hT hxl hfl
 rintro ⟨k3, xs, oa, oc⟩ ⟨hk3, hT, hxl, hfl⟩
 simp only [resRow] at hk3 hT hxl hfl ⊢
 (repeat refine Sat.seq ?_)
 (refine Sat.region_k fun k hk => ?_; simp -implicitDefEqProofs only [evr, id, reduceCtorEq, reduceIte, Nat.reduceMul, Nat.reduceAdd, Nat.reduceLT, Nat.reduceLeDiff, Nat.reduceEqDiff, Int.reduceLT, Int.reduceBEq, Int.reduceBNe, Nat.reduceBEq, exT_0, exT_1, evT_1, evT_2, ptr, nat_one, ev_one, exc_one, res_one, par_one, idn_one, idn_0, idn_1, idn_2, Int.reduceToNat, resRow, res_ro, rExtract_tup, evn]; refine hk _ ?_; clear hk k; try show Sat _ _ _ _ _)
 (repeat refine Sat.seq ?_)
 refine Sat.cond_b rfl (fun h2 => ?_) (fun h2 => ?_)
 ·have hpos : 0 < k3 := by simp only [decide_eq_true_eq] at h2; omega
  have e1 : IntKind.i64.wrap ((k3 : Int) - 1) = ((k3 - 1 : Nat) : Int) := by rw [w64 (by omega)]; omega
  have e2 : IntKind.i64.wrap (7 + (k3 : Int)) = 7 + (k3 : Int) := w64 (by omega)
  refine Sat.skip ?_
  simp only [thenK]
  (repeat refine Sat.seq ?_)
  refine Sat.block ?_
  (repeat refine Sat.seq ?_)
  refine Sat.region_k fun k hk => ?_
  simp -implicitDefEqProofs only [evr, id, reduceCtorEq, reduceIte, Nat.reduceMul, Nat.reduceAdd, Nat.reduceLT, Nat.reduceLeDiff, Nat.reduceEqDiff, Int.reduceLT, Int.reduceBEq, Int.reduceBNe, Nat.reduceBEq, exT_0, exT_1, evT_1, evT_2, ptr, nat_one, ev_one, exc_one, res_one, par_one, idn_one, idn_0, idn_1, idn_2, Int.reduceToNat, resRow, res_ro, rExtract_tup, evn]
  refine wcall_plain (nextC cb 4 (by decide) (by decide)) rfl (by rintro _ ⟨x, rfl, _⟩; exact ok_plain rfl) ?_
  rintro _ ⟨x, rfl, hx0, hx1⟩
  obtain ⟨a0, rfl⟩ : ∃ a0 : Nat, x = a0 := ⟨x.toNat, by omega⟩
  have e3 : IntKind.i64.wrap (1 + (a0 : Int)) = ((a0 + 1 : Nat) : Int) := by rw [w64 (by omega)]; omega
  simp -implicitDefEqProofs only [evr, id, reduceCtorEq, reduceIte, Nat.reduceMul, Nat.reduceAdd, Nat.reduceLT, Nat.reduceLeDiff, Nat.reduceEqDiff, Int.reduceLT, Int.reduceBEq, Int.reduceBNe, Nat.reduceBEq, exT_0, exT_1, evT_1, evT_2, ptr, nat_one, ev_one, exc_one, res_one, par_one, idn_one, idn_0, idn_1, idn_2, Int.reduceToNat, resRow, res_ro, rExtract_tup, e3, evn]
  (refine hk _ ?_; clear hk k; try show Sat _ _ _ _ _)
  obtain ⟨p, hp⟩ : ∃ p, p = a0 + 1 := ⟨_, rfl⟩
  have hp1 : 1 ≤ p ∧ p ≤ 4 := by omega
  rw [← hp]
  have e4 : IntKind.i64.wrap ((p : Int) + 1) = ((p + 1 : Nat) : Int) := by rw [w64 (by omega)]; omega
  have g3 := lnk_rg (p := p) (q := p + 1) (by omega) (by omega)
  have w1 : IntKind.u32.wrap (lnk p (p + 1) + 1) = lnk p (p + 1) + 1 := by rw [IntKind.wrap_u32]; omega
  (repeat refine Sat.seq ?_)
  refine Sat.region_k fun k hk => ?_
  simp -implicitDefEqProofs only [evr, id, reduceCtorEq, reduceIte, Nat.reduceMul, Nat.reduceAdd, Nat.reduceLT, Nat.reduceLeDiff, Nat.reduceEqDiff, Int.reduceLT, Int.reduceBEq, Int.reduceBNe, Nat.reduceBEq, exT_0, exT_1, evT_1, evT_2, ptr, nat_one, ev_one, exc_one, res_one, par_one, idn_one, idn_0, idn_1, idn_2, Int.reduceToNat, resRow, res_ro, rExtract_tup, e2, e4, evn]
  refine wcall_plain (lnkC (Frm.codes cb) p (p + 1) (by omega) (by omega)) rfl (by rintro _ rfl; exact ok_plain rfl) ?_
  rintro _ rfl
  simp -implicitDefEqProofs only [evr, id, reduceCtorEq, reduceIte, Nat.reduceMul, Nat.reduceAdd, Nat.reduceLT, Nat.reduceLeDiff, Nat.reduceEqDiff, Int.reduceLT, Int.reduceBEq, Int.reduceBNe, Nat.reduceBEq, exT_0, exT_1, evT_1, evT_2, ptr, nat_one, ev_one, exc_one, res_one, par_one, idn_one, idn_0, idn_1, idn_2, Int.reduceToNat, resRow, res_ro, rExtract_tup, w1, evn]
  refine wcall_plain (replyC (Frm.codes cb) (xs.length : Int) (7 + (k3 : Int)) 1 (lnk p (p + 1) + 1) (by omega) (by omega)) rfl (by rintro _ rfl; exact resAg_ok _) ?_
  rintro _ rfl
  simp only [resAg, Res.cs, rplR, evr, id, reduceCtorEq, reduceIte, Nat.reduceMul, Nat.reduceAdd, Nat.reduceLT, Nat.reduceLeDiff, Nat.reduceEqDiff, Int.reduceLT, Int.reduceBEq, Int.reduceBNe, Nat.reduceBEq, exT_0, exT_1, evT_1, evT_2, ptr, nat_one, ev_one, exc_one, res_one, par_one, idn_one, idn_0, idn_1, idn_2, List.append_nil, Int.toNat_zero, Nat.sub_self, Int.reduceToNat, resRow, res_ro, rExtract_tup]
  intro b14
  (refine hk _ ?_; clear hk k; try show Sat _ _ _ _ _)
  refine Sat.settleLast [.row oa 62 xs.length oc 17 (resRd xs.toArray)] 14 rfl ?_
  simp only [List.length_cons, List.length_nil, Nat.reduceAdd]
  (repeat refine Sat.seq ?_)
  refine Sat.region_k fun k hk => ?_
  simp -implicitDefEqProofs only [evr, id, reduceCtorEq, reduceIte, Nat.reduceMul, Nat.reduceAdd, Nat.reduceLT, Nat.reduceLeDiff, Nat.reduceEqDiff, Int.reduceLT, Int.reduceBEq, Int.reduceBNe, Nat.reduceBEq, exT_0, exT_1, evT_1, evT_2, ptr, nat_one, ev_one, exc_one, res_one, par_one, idn_one, idn_0, idn_1, idn_2, Int.reduceToNat, resRow, res_ro, rExtract_tup, evn]
  refine fun bz => ⟨⟨by unfold maxLen; omega, by omega⟩, fun a2 c2 => hk _ ?_⟩
  simp only [thenK, blockK, reduceIte]
  refine Sat.region_k fun kk hk => ?_
  simp -implicitDefEqProofs only [evr, id, reduceCtorEq, reduceIte, Nat.reduceMul, Nat.reduceAdd, Nat.reduceLT, Nat.reduceLeDiff, Nat.reduceEqDiff, Int.reduceLT, Int.reduceBEq, Int.reduceBNe, Nat.reduceBEq, exT_0, exT_1, evT_1, evT_2, ptr, nat_one, ev_one, exc_one, res_one, par_one, idn_one, idn_0, idn_1, idn_2, Int.reduceToNat, resRow, res_ro, rExtract_tup, e1, evn]
  refine hk _ ?_
  simp only [thenK, blockK]
  refine ⟨(k3 - 1, xs ++ [rplR xs.length (7 + (k3 : Int)) 1 (lnk p (p + 1) + 1)], a2, c2), ⟨by simp only; omega, hT.snoc2 (by omega) (by omega) (by omega) hp1.1 hp1.2 (fun r hr => by have := hfl r hr; omega), by simp only [List.length_append, List.length_singleton]; omega, fun r hr => ?_⟩, by simp only; omega, ?_⟩
  ·simp only at hr ⊢
   rcases List.mem_append.1 hr with hr | hr
   ·have := hfl r hr; omega
   ·rw [List.mem_singleton] at hr
    rw [hr]
    right
    show 7 + ((k3 - 1 : Nat) : Int) < 7 + (k3 : Int)
    omega
  ·simp only [resRow, List.length_append, List.length_singleton]
   simp -implicitDefEqProofs only [evr, id, reduceCtorEq, reduceIte, Nat.reduceMul, Nat.reduceAdd, Nat.reduceLT, Nat.reduceLeDiff, Nat.reduceEqDiff, Int.reduceLT, Int.reduceBEq, Int.reduceBNe, Nat.reduceBEq, exT_0, exT_1, evT_1, evT_2, ptr, nat_one, ev_one, exc_one, res_one, par_one, idn_one, idn_0, idn_1, idn_2, Int.reduceToNat, resRow, res_ro, rExtract_tup, evl, evn]
   exact res_appT rfl
 refine Sat.exit ?_
 simp only [thenK, blockK, reduceIte]
 refine Sat.settleLastRow [] 5 rfl ?_
 have hxl2 : xs.length ≤ 512 := by omega
 have hval := fun r hr => (hT.all r hr).valid hP
 have hbad : xs.any (fun x => !validR x) = false := by
  rw [List.any_eq_false]
  intro x hx
  rw [(hval x hx).1]
  decide
 (repeat refine Sat.seq ?_)
 (refine Sat.region_k fun k hk => ?_; simp -implicitDefEqProofs only [evr, id, reduceCtorEq, reduceIte, Nat.reduceMul, Nat.reduceAdd, Nat.reduceLT, Nat.reduceLeDiff, Nat.reduceEqDiff, Int.reduceLT, Int.reduceBEq, Int.reduceBNe, Nat.reduceBEq, exT_0, exT_1, evT_1, evT_2, ptr, nat_one, ev_one, exc_one, res_one, par_one, idn_one, idn_0, idn_1, idn_2, Int.reduceToNat, resRow, res_ro, rExtract_tup, evn]; refine hk _ ?_; clear hk k; try show Sat _ _ _ _ _)
 (repeat refine Sat.seq ?_)
 (refine Sat.region_k fun k hk => ?_; simp -implicitDefEqProofs only [evr, id, reduceCtorEq, reduceIte, Nat.reduceMul, Nat.reduceAdd, Nat.reduceLT, Nat.reduceLeDiff, Nat.reduceEqDiff, Int.reduceLT, Int.reduceBEq, Int.reduceBNe, Nat.reduceBEq, exT_0, exT_1, evT_1, evT_2, ptr, nat_one, ev_one, exc_one, res_one, par_one, idn_one, idn_0, idn_1, idn_2, Int.reduceToNat, resRow, res_ro, rExtract_tup, evn])
 refine wcall_slice (exPairsC (Frm.codes cb) oa oc xs hxl2 fun r hr => (hval r hr).2) rfl rfl ?_
 rintro r (⟨h9, _⟩ | ⟨_, a2, c2, es, hes, hel, rfl⟩)
 ·rw [hbad] at h9; cases h9
 simp -implicitDefEqProofs only [evr, id, reduceCtorEq, reduceIte, Nat.reduceMul, Nat.reduceAdd, Nat.reduceLT, Nat.reduceLeDiff, Nat.reduceEqDiff, Int.reduceLT, Int.reduceBEq, Int.reduceBNe, Nat.reduceBEq, exT_0, exT_1, evT_1, evT_2, ptr, nat_one, ev_one, exc_one, res_one, par_one, idn_one, idn_0, idn_1, idn_2, Int.reduceToNat, resRow, res_ro, rExtract_tup, evn]
 (refine hk _ ?_; clear hk k; try show Sat _ _ _ _ _)
 (repeat refine Sat.seq ?_)
 (refine Sat.region_k fun k hk => ?_; simp -implicitDefEqProofs only [evr, id, reduceCtorEq, reduceIte, Nat.reduceMul, Nat.reduceAdd, Nat.reduceLT, Nat.reduceLeDiff, Nat.reduceEqDiff, Int.reduceLT, Int.reduceBEq, Int.reduceBNe, Nat.reduceBEq, exT_0, exT_1, evT_1, evT_2, ptr, nat_one, ev_one, exc_one, res_one, par_one, idn_one, idn_0, idn_1, idn_2, Int.reduceToNat, resRow, res_ro, rExtract_tup, evn])
 refine wcall_slice (exMatesC (Frm.codes cb) oa oc xs hxl2 fun r hr => (hval r hr).2) rfl rfl ?_
 rintro r (⟨h9, _⟩ | ⟨_, a4, c4, us, hus, hul, rfl⟩)
 ·rw [hbad] at h9; cases h9
 simp -implicitDefEqProofs only [evr, id, reduceCtorEq, reduceIte, Nat.reduceMul, Nat.reduceAdd, Nat.reduceLT, Nat.reduceLeDiff, Nat.reduceEqDiff, Int.reduceLT, Int.reduceBEq, Int.reduceBNe, Nat.reduceBEq, exT_0, exT_1, evT_1, evT_2, ptr, nat_one, ev_one, exc_one, res_one, par_one, idn_one, idn_0, idn_1, idn_2, Int.reduceToNat, resRow, res_ro, rExtract_tup, evn]
 (refine hk _ ?_; clear hk k; try show Sat _ _ _ _ _)
 (repeat refine Sat.seq ?_)
 (refine Sat.region_k fun k hk => ?_; simp -implicitDefEqProofs only [evr, id, reduceCtorEq, reduceIte, Nat.reduceMul, Nat.reduceAdd, Nat.reduceLT, Nat.reduceLeDiff, Nat.reduceEqDiff, Int.reduceLT, Int.reduceBEq, Int.reduceBNe, Nat.reduceBEq, exT_0, exT_1, evT_1, evT_2, ptr, nat_one, ev_one, exc_one, res_one, par_one, idn_one, idn_0, idn_1, idn_2, Int.reduceToNat, resRow, res_ro, rExtract_tup, evn]; refine hk _ ?_; clear hk k; try show Sat _ _ _ _ _)
 (repeat refine Sat.seq ?_)
 refine Sat.block ?_
 refine Sat.loop (ι := Nat) (fun i => ⟨172, [(108, .i .i64 i), (107, .i .i64 es.length), (16, .sl a2 es.length c2 8 (excRd es.toArray)), (17, .i .i64 0), (18, .sl a4 us.length c4 4 (evRd us)), (19, .i .i64 0), (15, .fn 38 0 fun _ => default), (4, .fn 36 0 fun _ => default)], []⟩)
  (fun i => i ≤ es.length) (fun i => es.length - i) 0 (Nat.zero_le _) (by simp -implicitDefEqProofs only [evr, id, reduceCtorEq, reduceIte, Nat.reduceMul, Nat.reduceAdd, Nat.reduceLT, Nat.reduceLeDiff, Nat.reduceEqDiff, Int.reduceLT, Int.reduceBEq, Int.reduceBNe, Nat.reduceBEq, exT_0, exT_1, evT_1, evT_2, ptr, nat_one, ev_one, exc_one, res_one, par_one, idn_one, idn_0, idn_1, idn_2, Int.reduceToNat, resRow, res_ro, rExtract_tup, evl, evn]; first | done | rfl | exact ⟨rfl, rfl⟩ | trace_state) ?_
 rintro i hi
 (repeat refine Sat.seq ?_)
 (refine Sat.region_k fun k hk => ?_; simp -implicitDefEqProofs only [evr, id, reduceCtorEq, reduceIte, Nat.reduceMul, Nat.reduceAdd, Nat.reduceLT, Nat.reduceLeDiff, Nat.reduceEqDiff, Int.reduceLT, Int.reduceBEq, Int.reduceBNe, Nat.reduceBEq, exT_0, exT_1, evT_1, evT_2, ptr, nat_one, ev_one, exc_one, res_one, par_one, idn_one, idn_0, idn_1, idn_2, Int.reduceToNat, resRow, res_ro, rExtract_tup, evn]; refine hk _ ?_; clear hk k; try show Sat _ _ _ _ _)
 (repeat refine Sat.seq ?_)
 refine Sat.cond_b rfl (fun h => ?_) (fun h => ?_)
 ·have h1 : i < es.length := by simp only [decide_eq_true_eq] at h; omega
  have e2 : IntKind.i64.wrap ((i : Int) + 1) = ((i + 1 : Nat) : Int) := by rw [w64 (by omega)]; omega
  have hg1 : es.toArray[i]! = es[i] := by simp [getElem!_def, h1]
  have hC := (hes.each _ (List.getElem_mem h1)).1
  obtain ⟨⟨r1, r2⟩, r3, r4⟩ := exc_rg hP hT hC
  have hne : (rtr es[i].a == rtr es[i].b) = false := by
   have := tru_exc hP hT hC
   simpa using this
  refine Sat.skip ?_
  simp only [thenK]
  (repeat refine Sat.seq ?_)
  refine Sat.block ?_
  (repeat refine Sat.seq ?_)
  (refine Sat.region_k fun k hk => ?_; simp -implicitDefEqProofs only [evr, id, reduceCtorEq, reduceIte, Nat.reduceMul, Nat.reduceAdd, Nat.reduceLT, Nat.reduceLeDiff, Nat.reduceEqDiff, Int.reduceLT, Int.reduceBEq, Int.reduceBNe, Nat.reduceBEq, exT_0, exT_1, evT_1, evT_2, ptr, nat_one, ev_one, exc_one, res_one, par_one, idn_one, idn_0, idn_1, idn_2, Int.reduceToNat, resRow, res_ro, rExtract_tup, evn]; refine hk _ ?_; clear hk k; try show Sat _ _ _ _ _)
  (repeat refine Sat.seq ?_)
  refine Sat.at ⟨172, [(125, .b false), (108, .i .i64 i), (107, .i .i64 es.length), (16, .sl a2 es.length c2 8 (excRd es.toArray)), (17, .i .i64 0), (18, .sl a4 us.length c4 4 (evRd us)), (19, .i .i64 0), (15, .fn 38 0 fun _ => default), (4, .fn 36 0 fun _ => default)], []⟩ ?_ ?_
  ·(refine Sat.region_qk (by kernel_rfl) (by kernel_rfl) fun k hk => ?_; simp -implicitDefEqProofs only [evr, id, reduceCtorEq, reduceIte, Nat.reduceMul, Nat.reduceAdd, Nat.reduceLT, Nat.reduceLeDiff, Nat.reduceEqDiff, Int.reduceLT, Int.reduceBEq, Int.reduceBNe, Nat.reduceBEq, exT_0, exT_1, evT_1, evT_2, ptr, nat_one, ev_one, exc_one, res_one, par_one, idn_one, idn_0, idn_1, idn_2, Int.reduceToNat, resRow, res_ro, rExtract_tup, evn])
   rw [hg1]
   refine ⟨by omega, ?_⟩
   refine qcall (rtrC Frm.nil es[i].a r1 r2) rfl (ok_plain rfl) ?_
   simp -implicitDefEqProofs only [evr, id, reduceCtorEq, reduceIte, Nat.reduceMul, Nat.reduceAdd, Nat.reduceLT, Nat.reduceLeDiff, Nat.reduceEqDiff, Int.reduceLT, Int.reduceBEq, Int.reduceBNe, Nat.reduceBEq, exT_0, exT_1, evT_1, evT_2, ptr, nat_one, ev_one, exc_one, res_one, par_one, idn_one, idn_0, idn_1, idn_2, Int.reduceToNat, resRow, res_ro, rExtract_tup, evn]
   refine ⟨by omega, ?_⟩
   try rw [hg1]
   refine qcall (rtrC Frm.nil es[i].b r3 r4) rfl (ok_plain rfl) ?_
   simp -implicitDefEqProofs only [evr, id, reduceCtorEq, reduceIte, Nat.reduceMul, Nat.reduceAdd, Nat.reduceLT, Nat.reduceLeDiff, Nat.reduceEqDiff, Int.reduceLT, Int.reduceBEq, Int.reduceBNe, Nat.reduceBEq, exT_0, exT_1, evT_1, evT_2, ptr, nat_one, ev_one, exc_one, res_one, par_one, idn_one, idn_0, idn_1, idn_2, Int.reduceToNat, resRow, res_ro, rExtract_tup, hne, evn]
   refine hk _ ?_
   simp only [thenK]
   simp -implicitDefEqProofs only [evr, id, reduceCtorEq, reduceIte, Nat.reduceMul, Nat.reduceAdd, Nat.reduceLT, Nat.reduceLeDiff, Nat.reduceEqDiff, Int.reduceLT, Int.reduceBEq, Int.reduceBNe, Nat.reduceBEq, exT_0, exT_1, evT_1, evT_2, ptr, nat_one, ev_one, exc_one, res_one, par_one, idn_one, idn_0, idn_1, idn_2, Int.reduceToNat, resRow, res_ro, rExtract_tup, evl, evn]
  simp only [thenK]
  (repeat refine Sat.seq ?_)
  refine Sat.cond_b rfl (fun h => absurd h (by decide)) (fun _ => ?_)
  refine Sat.skip ?_
  simp only [thenK, blockK, reduceIte]
  refine Sat.region_k fun k hk => ?_
  simp -implicitDefEqProofs only [evr, id, reduceCtorEq, reduceIte, Nat.reduceMul, Nat.reduceAdd, Nat.reduceLT, Nat.reduceLeDiff, Nat.reduceEqDiff, Int.reduceLT, Int.reduceBEq, Int.reduceBNe, Nat.reduceBEq, exT_0, exT_1, evT_1, evT_2, ptr, nat_one, ev_one, exc_one, res_one, par_one, idn_one, idn_0, idn_1, idn_2, Int.reduceToNat, resRow, res_ro, rExtract_tup, e2, evn]
  refine hk _ ?_
  simp only [thenK, blockK]
  refine ⟨i + 1, h1, by omega, ?_⟩
  simp -implicitDefEqProofs only [evr, id, reduceCtorEq, reduceIte, Nat.reduceMul, Nat.reduceAdd, Nat.reduceLT, Nat.reduceLeDiff, Nat.reduceEqDiff, Int.reduceLT, Int.reduceBEq, Int.reduceBNe, Nat.reduceBEq, exT_0, exT_1, evT_1, evT_2, ptr, nat_one, ev_one, exc_one, res_one, par_one, idn_one, idn_0, idn_1, idn_2, Int.reduceToNat, resRow, res_ro, rExtract_tup, evl, evn]
 have h1 : i = es.length := by simp only [decide_eq_false_iff_not] at h; omega
 subst h1
 refine Sat.exit ?_
 simp only [thenK, blockK, reduceIte]
 (repeat refine Sat.seq ?_)
 (refine Sat.region_k fun k hk => ?_; simp -implicitDefEqProofs only [evr, id, reduceCtorEq, reduceIte, Nat.reduceMul, Nat.reduceAdd, Nat.reduceLT, Nat.reduceLeDiff, Nat.reduceEqDiff, Int.reduceLT, Int.reduceBEq, Int.reduceBNe, Nat.reduceBEq, exT_0, exT_1, evT_1, evT_2, ptr, nat_one, ev_one, exc_one, res_one, par_one, idn_one, idn_0, idn_1, idn_2, Int.reduceToNat, resRow, res_ro, rExtract_tup, evn]; refine hk _ ?_; clear hk k; try show Sat _ _ _ _ _)
 (repeat refine Sat.seq ?_)
 refine Sat.block ?_
 refine Sat.loop (ι := Nat) (fun i => ⟨172, [(129, .i .i64 i), (128, .i .i64 us.length), (17, .i .i64 0), (18, .sl a4 us.length c4 4 (evRd us)), (19, .i .i64 0), (15, .fn 38 0 fun _ => default), (4, .fn 36 0 fun _ => default)], []⟩)
  (fun i => i ≤ us.length) (fun i => us.length - i) 0 (Nat.zero_le _) (by simp -implicitDefEqProofs only [evr, id, reduceCtorEq, reduceIte, Nat.reduceMul, Nat.reduceAdd, Nat.reduceLT, Nat.reduceLeDiff, Nat.reduceEqDiff, Int.reduceLT, Int.reduceBEq, Int.reduceBNe, Nat.reduceBEq, exT_0, exT_1, evT_1, evT_2, ptr, nat_one, ev_one, exc_one, res_one, par_one, idn_one, idn_0, idn_1, idn_2, Int.reduceToNat, resRow, res_ro, rExtract_tup, evl, evn]; first | done | rfl | exact ⟨rfl, rfl⟩ | trace_state) ?_
 clear hi
 rintro i hi
 (repeat refine Sat.seq ?_)
 (refine Sat.region_k fun k hk => ?_; simp -implicitDefEqProofs only [evr, id, reduceCtorEq, reduceIte, Nat.reduceMul, Nat.reduceAdd, Nat.reduceLT, Nat.reduceLeDiff, Nat.reduceEqDiff, Int.reduceLT, Int.reduceBEq, Int.reduceBNe, Nat.reduceBEq, exT_0, exT_1, evT_1, evT_2, ptr, nat_one, ev_one, exc_one, res_one, par_one, idn_one, idn_0, idn_1, idn_2, Int.reduceToNat, resRow, res_ro, rExtract_tup, evn]; refine hk _ ?_; clear hk k; try show Sat _ _ _ _ _)
 (repeat refine Sat.seq ?_)
 refine Sat.cond_b rfl (fun h => ?_) (fun h => ?_)
 ·have h1 : i < us.length := by simp only [decide_eq_true_eq] at h; omega
  have e2 : IntKind.i64.wrap ((i : Int) + 1) = ((i + 1 : Nat) : Int) := by rw [w64 (by omega)]; omega
  have hg1 : us.getD i default = us[i] := by rw [List.getD_eq_getElem?_getD, List.getElem?_eq_getElem h1]; rfl
  have hC := (hus.best.each _ (List.getElem_mem h1)).1
  obtain ⟨⟨r1, r2⟩, r3, r4⟩ := mat_rg hP hT hC
  have hne : (rtr us[i].a != rtr us[i].b) = false := by
   have := tru_mat hP hT hC
   simpa using this
  refine Sat.skip ?_
  simp only [thenK]
  (repeat refine Sat.seq ?_)
  refine Sat.block ?_
  (repeat refine Sat.seq ?_)
  (refine Sat.region_k fun k hk => ?_; simp -implicitDefEqProofs only [evr, id, reduceCtorEq, reduceIte, Nat.reduceMul, Nat.reduceAdd, Nat.reduceLT, Nat.reduceLeDiff, Nat.reduceEqDiff, Int.reduceLT, Int.reduceBEq, Int.reduceBNe, Nat.reduceBEq, exT_0, exT_1, evT_1, evT_2, ptr, nat_one, ev_one, exc_one, res_one, par_one, idn_one, idn_0, idn_1, idn_2, Int.reduceToNat, resRow, res_ro, rExtract_tup, evn]; refine hk _ ?_; clear hk k; try show Sat _ _ _ _ _)
  (repeat refine Sat.seq ?_)
  refine Sat.at ⟨172, [(146, .b false), (129, .i .i64 i), (128, .i .i64 us.length), (17, .i .i64 0), (18, .sl a4 us.length c4 4 (evRd us)), (19, .i .i64 0), (15, .fn 38 0 fun _ => default), (4, .fn 36 0 fun _ => default)], []⟩ ?_ ?_
  ·(refine Sat.region_qk (by kernel_rfl) (by kernel_rfl) fun k hk => ?_; simp -implicitDefEqProofs only [evr, id, reduceCtorEq, reduceIte, Nat.reduceMul, Nat.reduceAdd, Nat.reduceLT, Nat.reduceLeDiff, Nat.reduceEqDiff, Int.reduceLT, Int.reduceBEq, Int.reduceBNe, Nat.reduceBEq, exT_0, exT_1, evT_1, evT_2, ptr, nat_one, ev_one, exc_one, res_one, par_one, idn_one, idn_0, idn_1, idn_2, Int.reduceToNat, resRow, res_ro, rExtract_tup, evn])
   rw [hg1]
   refine ⟨by omega, ?_⟩
   refine qcall (rtrC Frm.nil us[i].a r1 r2) rfl (ok_plain rfl) ?_
   simp -implicitDefEqProofs only [evr, id, reduceCtorEq, reduceIte, Nat.reduceMul, Nat.reduceAdd, Nat.reduceLT, Nat.reduceLeDiff, Nat.reduceEqDiff, Int.reduceLT, Int.reduceBEq, Int.reduceBNe, Nat.reduceBEq, exT_0, exT_1, evT_1, evT_2, ptr, nat_one, ev_one, exc_one, res_one, par_one, idn_one, idn_0, idn_1, idn_2, Int.reduceToNat, resRow, res_ro, rExtract_tup, evn]
   refine ⟨by omega, ?_⟩
   try rw [hg1]
   refine qcall (rtrC Frm.nil us[i].b r3 r4) rfl (ok_plain rfl) ?_
   simp -implicitDefEqProofs only [evr, id, reduceCtorEq, reduceIte, Nat.reduceMul, Nat.reduceAdd, Nat.reduceLT, Nat.reduceLeDiff, Nat.reduceEqDiff, Int.reduceLT, Int.reduceBEq, Int.reduceBNe, Nat.reduceBEq, exT_0, exT_1, evT_1, evT_2, ptr, nat_one, ev_one, exc_one, res_one, par_one, idn_one, idn_0, idn_1, idn_2, Int.reduceToNat, resRow, res_ro, rExtract_tup, hne, evn]
   refine hk _ ?_
   simp only [thenK]
   simp -implicitDefEqProofs only [evr, id, reduceCtorEq, reduceIte, Nat.reduceMul, Nat.reduceAdd, Nat.reduceLT, Nat.reduceLeDiff, Nat.reduceEqDiff, Int.reduceLT, Int.reduceBEq, Int.reduceBNe, Nat.reduceBEq, exT_0, exT_1, evT_1, evT_2, ptr, nat_one, ev_one, exc_one, res_one, par_one, idn_one, idn_0, idn_1, idn_2, Int.reduceToNat, resRow, res_ro, rExtract_tup, evl, evn]
  simp only [thenK]
  (repeat refine Sat.seq ?_)
  refine Sat.cond_b rfl (fun h => absurd h (by decide)) (fun _ => ?_)
  refine Sat.skip ?_
  simp only [thenK, blockK, reduceIte]
  refine Sat.region_k fun k hk => ?_
  simp -implicitDefEqProofs only [evr, id, reduceCtorEq, reduceIte, Nat.reduceMul, Nat.reduceAdd, Nat.reduceLT, Nat.reduceLeDiff, Nat.reduceEqDiff, Int.reduceLT, Int.reduceBEq, Int.reduceBNe, Nat.reduceBEq, exT_0, exT_1, evT_1, evT_2, ptr, nat_one, ev_one, exc_one, res_one, par_one, idn_one, idn_0, idn_1, idn_2, Int.reduceToNat, resRow, res_ro, rExtract_tup, e2, evn]
  refine hk _ ?_
  simp only [thenK, blockK]
  refine ⟨i + 1, h1, by omega, ?_⟩
  simp -implicitDefEqProofs only [evr, id, reduceCtorEq, reduceIte, Nat.reduceMul, Nat.reduceAdd, Nat.reduceLT, Nat.reduceLeDiff, Nat.reduceEqDiff, Int.reduceLT, Int.reduceBEq, Int.reduceBNe, Nat.reduceBEq, exT_0, exT_1, evT_1, evT_2, ptr, nat_one, ev_one, exc_one, res_one, par_one, idn_one, idn_0, idn_1, idn_2, Int.reduceToNat, resRow, res_ro, rExtract_tup, evl, evn]
 have h1 : i = us.length := by simp only [decide_eq_false_iff_not] at h; omega
 subst h1
 refine Sat.exit ?_
 simp only [thenK, blockK, reduceIte]
 have w1 : IntKind.u32.wrap ((167772200 : Int) + 1) = 167772201 := by decide
 have w2 : IntKind.u32.wrap ((167772200 : Int) + 2) = 167772202 := by decide
 (repeat refine Sat.seq ?_)
 (refine Sat.region_k fun k hk => ?_; simp -implicitDefEqProofs only [evr, id, reduceCtorEq, reduceIte, Nat.reduceMul, Nat.reduceAdd, Nat.reduceLT, Nat.reduceLeDiff, Nat.reduceEqDiff, Int.reduceLT, Int.reduceBEq, Int.reduceBNe, Nat.reduceBEq, exT_0, exT_1, evT_1, evT_2, ptr, nat_one, ev_one, exc_one, res_one, par_one, idn_one, idn_0, idn_1, idn_2, Int.reduceToNat, resRow, res_ro, rExtract_tup, evn])
 refine wcall_plain (lnkC (Frm.codes cb) 1 2 (by decide) (by decide)) rfl (by rintro _ rfl; exact ok_plain rfl) ?_
 rintro _ rfl
 simp -implicitDefEqProofs only [evr, id, reduceCtorEq, reduceIte, Nat.reduceMul, Nat.reduceAdd, Nat.reduceLT, Nat.reduceLeDiff, Nat.reduceEqDiff, Int.reduceLT, Int.reduceBEq, Int.reduceBNe, Nat.reduceBEq, exT_0, exT_1, evT_1, evT_2, ptr, nat_one, ev_one, exc_one, res_one, par_one, idn_one, idn_0, idn_1, idn_2, Int.reduceToNat, resRow, res_ro, rExtract_tup, lnk12, w1, evn]
 refine wcall_plain (mateC (Frm.codes cb) 167772201 30) rfl (by rintro _ rfl; intro R w q hq; rcases (show q = 0 ∨ q = 1 by simp at hq; omega) with rfl | rfl <;> trivial) ?_
 rintro _ rfl
 rw [mate12]
 simp only [tupL, evr, id, reduceCtorEq, reduceIte, Nat.reduceMul, Nat.reduceAdd, Nat.reduceLT, Nat.reduceLeDiff, Nat.reduceEqDiff, Int.reduceLT, Int.reduceBEq, Int.reduceBNe, Nat.reduceBEq, exT_0, exT_1, evT_1, evT_2, ptr, nat_one, ev_one, exc_one, res_one, par_one, idn_one, idn_0, idn_1, idn_2, List.append_nil, Int.toNat_zero, Nat.sub_self, Int.reduceToNat, resRow, res_ro, rExtract_tup]
 (refine hk _ ?_; clear hk k; try show Sat _ _ _ _ _)
 (repeat refine Sat.seq ?_)
 (refine Sat.region_k fun k hk => ?_; simp -implicitDefEqProofs only [evr, id, reduceCtorEq, reduceIte, Nat.reduceMul, Nat.reduceAdd, Nat.reduceLT, Nat.reduceLeDiff, Nat.reduceEqDiff, Int.reduceLT, Int.reduceBEq, Int.reduceBNe, Nat.reduceBEq, exT_0, exT_1, evT_1, evT_2, ptr, nat_one, ev_one, exc_one, res_one, par_one, idn_one, idn_0, idn_1, idn_2, Int.reduceToNat, resRow, res_ro, rExtract_tup, evn])
 refine wcall_plain (lnkC (Frm.codes cb) 1 2 (by decide) (by decide)) rfl (by rintro _ rfl; exact ok_plain rfl) ?_
 rintro _ rfl
 simp -implicitDefEqProofs only [evr, id, reduceCtorEq, reduceIte, Nat.reduceMul, Nat.reduceAdd, Nat.reduceLT, Nat.reduceLeDiff, Nat.reduceEqDiff, Int.reduceLT, Int.reduceBEq, Int.reduceBNe, Nat.reduceBEq, exT_0, exT_1, evT_1, evT_2, ptr, nat_one, ev_one, exc_one, res_one, par_one, idn_one, idn_0, idn_1, idn_2, Int.reduceToNat, resRow, res_ro, rExtract_tup, lnk12, w2, evn]
 (refine hk _ ?_; clear hk k; try show Sat _ _ _ _ _)
 refine Sat.ret ?_
 simp only [Tryz.results6, evr, id, reduceCtorEq, reduceIte, Nat.reduceMul, Nat.reduceAdd, Nat.reduceLT, Nat.reduceLeDiff, Nat.reduceEqDiff, Int.reduceLT, Int.reduceBEq, Int.reduceBNe, Nat.reduceBEq, exT_0, exT_1, evT_1, evT_2, ptr, nat_one, ev_one, exc_one, res_one, par_one, idn_one, idn_0, idn_1, idn_2, List.append_nil, Int.toNat_zero, Nat.sub_self, Int.reduceToNat, resRow, res_ro, rExtract_tup]
theorem truth_holds : Rows.ExclusionTruthSaid := exclusionTruth.of_walk fun a0 z0 w ⟨h, hz⟩ => by
 obtain ⟨a, cap, rfl, hok⟩ := slB_of h
 exact walk_of (truthC a cap z0 hz) (fun s hs => by rw [List.mem_singleton.1 hs]; exact hok)
#print axioms truth_holds
end Go.Proofs.YtfeiiadligkamaaGreat
