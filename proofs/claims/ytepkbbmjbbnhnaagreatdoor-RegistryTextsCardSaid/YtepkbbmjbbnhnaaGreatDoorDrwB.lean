/- Choices as a variable of the call's own: New makes it, Next and Left turn it; what they give is known exactly. -/
import Derived.Test.YtepkbbmjbbnhnaaGreatDoorCodesR
import Derived.WalkKit
set_option linter.unusedSimpArgs false
set_option linter.unusedVariables false
namespace Go.Proofs.YtepkbbmjbbnhnaaGreatDoor
open Go.RowKit Eng
namespace Eng
section
variable {P : Program} {F : Frm} {ds : List (Option Tmp)} {rest : List Oper} {dst : Option Tmp} {n : Nat} {env : List (Nat × SV)} {own : List Own} {k : St → Prop}
structure MakesB (P : Program) (f : FuncId) (args : List SV) (ty : TypeId) (post : List SV → Prop) : Prop where
  enters : ∀ vs w, (callFunc f vs).run P w = .ok (.enter f vs) w
  calls : ∀ (R : Nat → Prop) (w : World), (∀ s ∈ args, s.ok R w) → (∀ b, R b → b < w.heap.size) →
    Calls P f (args.map SV.den).toArray w fun e w' => e = .returned (.pointer (some ⟨w.heap.size, 0, none⟩)) ∧ ∃ cs, post cs ∧ Evo (fun _ => False) w w' ∧ w'.heap[w.heap.size]? = some (.cells (cs.map SV.den).toArray ty (0, 0)) ∧ ∀ c ∈ cs, c.den.oneCell' = true ∧ c.ok R w'
theorem wcall_box {f : FuncId} {args : List SV} {ty : TypeId} {post : List SV → Prop} (h : MakesB P f args ty post) (hk : ∀ (cb : Nat) (cs : List SV), post cs → WO P F ds rest (St.put ⟨n, env, own ++ [.box cb ty cs]⟩ dst (.op own.length cb 0)) k) : WCall P F ds rest dst ⟨n, env, own⟩ f (some args) k := by
  unfold WCall
  refine .inl ?_
  intro R0 w0 ob R a w hr hargs
  refine ⟨h.enters, ?_⟩
  refine (h.calls R w hargs (fun b hb => (hr.rr b hb).1)).mono ?_
  rintro e w' ⟨rfl, cs, hp, hevo, hcell, hok⟩
  have hg : w.grownBy w' none := ⟨hevo.os, hevo.tape, hevo.output, hevo.size, fun b hb _ => hevo.block b hb (fun h => h)⟩
  have hnew := hr.newRow (o := .box w.heap.size ty cs) hg (fun b hb => by simpa [Own.blk] using hb.symm) ⟨hr.obw, fun hc => by have := (hr.rr _ hc).1; omega, hcell, hok⟩
  exact ⟨.op own.length w.heap.size 0, _, R, rfl, hk w.heap.size cs hp, trivial, hnew, rfl⟩
theorem Sat.simBox {c : Code} {K : Exit → St → Prop} (id : Nat) {blk ty : Nat} {cs : List SV} (cs' : List SV) (hl : own[id]? = some (.box blk ty cs)) (hs : simA cs cs')
    (h : Sat P F c ⟨n, env, own.set id (.box blk ty cs')⟩ K) : Sat P F c ⟨n, env, own⟩ K := by
  rintro R0 w0 a w ⟨ob, R, hr⟩
  refine h R0 w0 a w ⟨ob, R, ?_⟩
  obtain ⟨h1, h2, h3, h4⟩ := hr.own id _ hl
  have key : ∀ (l l' : List SV), simA l l' → l'.map SV.den = l.map SV.den ∧ ∀ c' ∈ l', ∃ c ∈ l, sim c c' := by
    intro l
    induction l with
    | nil => intro l' h; cases l' with
      | nil => exact ⟨rfl, fun _ h => by cases h⟩
      | cons _ _ => exact h.elim
    | cons s t ih => intro l' h; cases l' with
      | nil => exact h.elim
      | cons s' t' =>
        obtain ⟨g1, g2⟩ := ih t' h.2
        refine ⟨by rw [List.map_cons, List.map_cons, g1, h.1.1], fun c' hc' => ?_⟩
        rcases List.mem_cons.1 hc' with rfl | hc'
        · exact ⟨s, by simp, h.1⟩
        · obtain ⟨c, hc, hcc⟩ := g2 c' hc'
          exact ⟨c, List.mem_cons_of_mem _ hc, hcc⟩
  obtain ⟨k1, k2⟩ := key cs cs' hs
  refine hr.setOwn (g := blk) hl rfl (fun b hb => by simpa [Own.blk] using hb.symm) rfl rfl rfl (Nat.le_refl _) (fun _ _ _ => rfl) ⟨h1, h2, by rw [k1]; exact h3, fun c' hc' => ?_⟩
  obtain ⟨c, hc, hcc⟩ := k2 c' hc'
  exact ⟨by rw [← hcc.1]; exact (h4 c hc).1, hcc.2 R w (h4 c hc).2⟩
theorem Sat.join {st : St} {K : Exit → St → Prop} {c y : Code} {ι : Type} (sh : ι → St) (J : ι → Prop) (h : Sat P F c st (thenK (fun st' => ∃ z, J z ∧ Le st' (sh z)) K)) (h2 : ∀ z, J z → Sat P F y (sh z) K) :
    Sat P F c st (thenK (fun st' => Sat P F y st' K) K) :=
  h.mono fun e st' hk => by
    cases e with
    | normal => obtain ⟨z, hz, hl⟩ := hk; exact (h2 z hz).le hl
    | _ => exact hk
theorem Sat.join2 {st : St} {K : Exit → St → Prop} {c y : Code} {ι : Type} (sh : ι → St) (J : ι → Prop) (h : (∀ z, J z → Sat P F y (sh z) K) → Sat P F c st (thenK (fun st' => Sat P F y st' K) K)) (h2 : ∀ z, J z → Sat P F y (sh z) K) :
    Sat P F c st (thenK (fun st' => Sat P F y st' K) K) := h h2
end
end Eng
def dbox (cb : Nat) (a : Option Addr) (l cap : Nat) (rd : Nat → Nat → SV) (p : Nat) : Eng.Own := .box cb 76 [.sl a l cap 1 rd, .i .i64 p]
theorem new_made2 (a : Option Addr) (len cap : Nat) (w : World) (most : Nat) (h1 : len ≤ cap) (h2 : cap ≤ maxLen) (hm : most ≤ 65536) :
    Calls Tryz.prog 36 #[.slice a len cap, .int .i64 (most : Int)] w fun e w' => e = .returned (.pointer (some ⟨w.heap.size, 0, none⟩)) ∧ ∃ n, n ≤ len ∧ n ≤ most ∧ w' = w.alloc (.cells #[.slice a n cap, .int .i64 0] 76) := by
  unfold maxLen at h2
  by_cases hl : (most : Nat) < len
  · go_enter Tryz.func36, Tryz.ntmps36
    go_wp2
    go_ret
    exact ⟨rfl, most, by omega, by omega, rfl⟩
  · go_enter Tryz.func36, Tryz.ntmps36
    go_wp2
    go_ret
    exact ⟨rfl, len, by omega, by omega, rfl⟩
theorem newB (s : SV) (hs : isBytes s) (most : Nat) (hm : most ≤ 65536) : MakesB Tryz.prog 36 [s, .i .i64 most] 76
    (fun cs => ∃ a l cap rd, l ≤ most ∧ l ≤ cap ∧ cap ≤ maxLen ∧ (∀ i, i < l → ∃ x : Int, 0 ≤ x ∧ x < 256 ∧ rd i 0 = .i .u8 x) ∧ cs = [.sl a l cap 1 rd, .i .i64 0]) := by
  obtain ⟨a, len, cap, rd, rfl, hb⟩ := hs
  refine ⟨enters_of Tryz.func36 rfl (by kernel_rfl), fun R w hargs hR => ?_⟩
  obtain ⟨h1, h2, h3⟩ := hargs _ (List.mem_cons_self ..)
  refine (new_made2 a len cap w most h1 h2 hm).mono ?_
  rintro e w' ⟨rfl, n, hn, hnm, rfl⟩
  have hold : ∀ b, R b → (w.alloc (.cells #[.slice a n cap, .int .i64 0] 76)).heap[b]? = w.heap[b]? := fun b hb => heap_alloc_old w _ (hR b hb)
  refine ⟨rfl, [.sl a n cap 1 rd, .i .i64 0], ⟨a, n, cap, rd, hnm, by omega, h2, fun i hi => hb i (by omega), rfl⟩, ⟨rfl, rfl, rfl, by simp, fun b hb _ => heap_alloc_old w _ hb⟩, heap_alloc_new w _, ?_⟩
  intro c hc
  simp only [List.mem_cons, List.not_mem_nil, or_false] at hc
  rcases hc with rfl | rfl
  · refine ⟨rfl, by omega, h2, ?_⟩
    rcases h3 with h3 | ⟨blk, off, rfl, hr, hc⟩
    · exact .inl (by omega)
    · refine .inr ⟨blk, off, rfl, hr, fun i j hi hj => ?_⟩
      obtain ⟨g1, g2, g3⟩ := hc i j (by omega) hj
      exact ⟨by rw [World.cell?_of_block (w := w) (a := ⟨blk, off + i * 1 + j, none⟩) (hold blk hr)]; exact g1, g2, SV.ok_mono (fun _ h => h) hold _ g3⟩
  · exact ⟨rfl, trivial⟩
set_option maxRecDepth 100000 in
theorem nextB (F : Frm) (cb : Nat) (a : Option Addr) (l cap : Nat) (rd : Nat → Nat → SV) (p : Nat) (hl : l ≤ 65536) (hb : ∀ i, i < l → ∃ x : Int, 0 ≤ x ∧ x < 256 ∧ rd i 0 = .i .u8 x) (n : Int) (h0 : 1 ≤ n) (h1 : n ≤ 256) :
    ContractM F Tryz.prog 13 [.op 0 cb 0, .i .i64 n] (dbox cb a l cap rd p) (fun r o1 => ∃ x : Int, r = .i .i64 x ∧ 0 ≤ x ∧ x < n ∧ o1 = dbox cb a l cap rd (if p < l then p + 1 else p)) := by
  refine contractM_of Tryz.func13 rfl (by kernel_rfl) (by rintro r o1 ⟨x, _, _, _, rfl⟩; rfl) ?_
  simp only [Tryz.ntmps13, argEnv, dbox]
  (repeat refine Sat.seq ?_)
  (refine Sat.region_k fun k hk => ?_; simp -implicitDefEqProofs only [evr, id, reduceCtorEq, reduceIte, Nat.reduceMul, Nat.reduceAdd, Nat.reduceLT, Nat.reduceLeDiff, Nat.reduceEqDiff, Int.reduceLT, Int.reduceBEq, Int.reduceBNe, Nat.reduceBEq, retM, retMK, dbox, List.cons_append, List.nil_append]; refine hk _ ?_; clear hk k; try show Sat _ _ _ _ _)
  by_cases hp : p < l
  · obtain ⟨x, hx0, hx1, hx⟩ := hb p hp
    have e1 : IntKind.i64.wrap ((p : Int) + 1) = ((p + 1 : Nat) : Int) := by rw [w64 (by omega)]; omega
    have e2 : IntKind.i64.wrap x = x := w64 (by omega)
    (repeat refine Sat.seq ?_)
    (refine Sat.region_qk (by kernel_rfl) (by kernel_rfl) fun k hk => ?_; simp -implicitDefEqProofs only [evr, id, reduceCtorEq, reduceIte, Nat.reduceMul, Nat.reduceAdd, Nat.reduceLT, Nat.reduceLeDiff, Nat.reduceEqDiff, Int.reduceLT, Int.reduceBEq, Int.reduceBNe, Nat.reduceBEq, retM, retMK, dbox, List.cons_append, List.nil_append])
    refine ⟨fun h => absurd h (by omega), fun _ => ?_⟩
    (refine hk _ ?_; clear hk k; try show Sat _ _ _ _ _)
    refine Sat.cond_b rfl (fun h => absurd h (by simp only [decide_eq_true_eq]; omega)) (fun _ => ?_)
    refine Sat.skip ?_
    simp only [thenK]
    (repeat refine Sat.seq ?_)
    refine Sat.region_qk (by kernel_rfl) (by kernel_rfl) fun k hk => ?_
    simp -implicitDefEqProofs only [evr, id, reduceCtorEq, reduceIte, Nat.reduceMul, Nat.reduceAdd, Nat.reduceLT, Nat.reduceLeDiff, Nat.reduceEqDiff, Int.reduceLT, Int.reduceBEq, Int.reduceBNe, Nat.reduceBEq, retM, retMK, dbox, List.cons_append, List.nil_append, Int.toNat_natCast, hx, e2]
    refine ⟨by omega, ?_⟩
    (refine hk _ ?_; clear hk k; try show Sat _ _ _ _ _)
    (repeat refine Sat.seq ?_)
    refine Sat.region_k fun k hk => ?_
    simp -implicitDefEqProofs only [evr, id, reduceCtorEq, reduceIte, Nat.reduceMul, Nat.reduceAdd, Nat.reduceLT, Nat.reduceLeDiff, Nat.reduceEqDiff, Int.reduceLT, Int.reduceBEq, Int.reduceBNe, Nat.reduceBEq, retM, retMK, dbox, List.cons_append, List.nil_append, e1]
    (refine hk _ ?_; clear hk k; try show Sat _ _ _ _ _)
    (repeat refine Sat.seq ?_)
    (refine Sat.region_k fun k hk => ?_; simp -implicitDefEqProofs only [evr, id, reduceCtorEq, reduceIte, Nat.reduceMul, Nat.reduceAdd, Nat.reduceLT, Nat.reduceLeDiff, Nat.reduceEqDiff, Int.reduceLT, Int.reduceBEq, Int.reduceBNe, Nat.reduceBEq, retM, retMK, dbox, List.cons_append, List.nil_append]; refine hk _ ?_; clear hk k; try show Sat _ _ _ _ _)
    (repeat refine Sat.seq ?_)
    refine Sat.cond_b rfl (fun h => absurd h (by simp only [decide_eq_true_eq]; omega)) (fun _ => ?_)
    refine Sat.skip ?_
    simp only [thenK]
    (repeat refine Sat.seq ?_)
    (refine Sat.region_k fun k hk => ?_; simp -implicitDefEqProofs only [evr, id, reduceCtorEq, reduceIte, Nat.reduceMul, Nat.reduceAdd, Nat.reduceLT, Nat.reduceLeDiff, Nat.reduceEqDiff, Int.reduceLT, Int.reduceBEq, Int.reduceBNe, Nat.reduceBEq, retM, retMK, dbox, List.cons_append, List.nil_append])
    refine ⟨by omega, ?_⟩
    (refine hk _ ?_; clear hk k; try show Sat _ _ _ _ _)
    refine Sat.ret ?_
    simp only [Tryz.results13, evr, id, reduceCtorEq, reduceIte, Nat.reduceMul, Nat.reduceAdd, Nat.reduceLT, Nat.reduceLeDiff, Nat.reduceEqDiff, Int.reduceLT, Int.reduceBEq, Int.reduceBNe, Nat.reduceBEq, retM, retMK, dbox, List.cons_append, List.nil_append]
    rw [if_pos hp]
    exact ⟨rfl, _, _, rfl, _, rfl, Int.tmod_nonneg _ hx0, Int.tmod_lt_of_pos _ (by omega), rfl⟩
  · (repeat refine Sat.seq ?_)
    (refine Sat.region_qk (by kernel_rfl) (by kernel_rfl) fun k hk => ?_; simp -implicitDefEqProofs only [evr, id, reduceCtorEq, reduceIte, Nat.reduceMul, Nat.reduceAdd, Nat.reduceLT, Nat.reduceLeDiff, Nat.reduceEqDiff, Int.reduceLT, Int.reduceBEq, Int.reduceBNe, Nat.reduceBEq, retM, retMK, dbox, List.cons_append, List.nil_append])
    refine ⟨fun _ => ?_, fun h => absurd (by omega) h⟩
    (refine hk _ ?_; clear hk k; try show Sat _ _ _ _ _)
    refine Sat.cond_tt rfl ?_
    (repeat refine Sat.seq ?_)
    (refine Sat.region_k fun k hk => ?_; simp -implicitDefEqProofs only [evr, id, reduceCtorEq, reduceIte, Nat.reduceMul, Nat.reduceAdd, Nat.reduceLT, Nat.reduceLeDiff, Nat.reduceEqDiff, Int.reduceLT, Int.reduceBEq, Int.reduceBNe, Nat.reduceBEq, retM, retMK, dbox, List.cons_append, List.nil_append]; refine hk _ ?_; clear hk k; try show Sat _ _ _ _ _)
    refine Sat.ret ?_
    simp only [Tryz.results13, evr, id, reduceCtorEq, reduceIte, Nat.reduceMul, Nat.reduceAdd, Nat.reduceLT, Nat.reduceLeDiff, Nat.reduceEqDiff, Int.reduceLT, Int.reduceBEq, Int.reduceBNe, Nat.reduceBEq, retM, retMK, dbox, List.cons_append, List.nil_append]
    rw [if_neg hp]
    exact ⟨rfl, _, _, rfl, 0, rfl, Int.le_refl _, by omega, rfl⟩
theorem nextB2 (F : Frm) (cb : Nat) (a : Option Addr) (l cap : Nat) (rd : Nat → Nat → SV) (p : Nat) (hl : l ≤ 65536) (hb : ∀ i, i < l → ∃ x : Int, 0 ≤ x ∧ x < 256 ∧ rd i 0 = .i .u8 x) (hp : p ≤ l) (n : Int) (h0 : 1 ≤ n) (h1 : n ≤ 256) :
    ContractM F Tryz.prog 13 [.op 0 cb 0, .i .i64 n] (dbox cb a l cap rd p) (fun r o1 => ∃ (x : Int) (p' : Nat), r = .i .i64 x ∧ 0 ≤ x ∧ x < n ∧ p ≤ p' ∧ p' ≤ l ∧ (p < l → p < p') ∧ o1 = dbox cb a l cap rd p') :=
  (nextB F cb a l cap rd p hl hb n h0 h1).mono fun r o1 ⟨x, h2, h3, h4, h5⟩ => ⟨x, _, h2, h3, h4, by split <;> omega, by split <;> omega, fun h => by rw [if_pos h]; omega, h5⟩
end Go.Proofs.YtepkbbmjbbnhnaaGreatDoor
