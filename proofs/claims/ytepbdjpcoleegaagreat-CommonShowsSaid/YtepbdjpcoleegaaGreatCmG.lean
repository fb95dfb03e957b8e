import Derived.Test.YtepbdjpcoleegaaGreatCmF
import Derived.Test.YtepbdjpcoleegaaGreatPk3

/- The example of the chapter, by the evaluator: awake of law 28. -/
set_option linter.unusedSimpArgs false
set_option linter.unusedVariables false
namespace Go.Proofs.YtepbdjpcoleegaaGreat
open Go.Sort Eng
namespace Eng
theorem simA_mem : ∀ {l l' : List SV}, simA l l' → ∀ s' ∈ l', ∃ s ∈ l, sim s s'
  | [], [], _, s', h => by cases h
  | [], _ :: _, h, _, _ => h.elim
  | _ :: _, [], h, _, _ => h.elim
  | s :: l, t :: l', h, s', hs => by
    rcases List.mem_cons.1 hs with rfl | hs
    · exact ⟨s, by simp, h.1⟩
    · obtain ⟨x, hx, h2⟩ := simA_mem h.2 s' hs
      exact ⟨x, by simp [hx], h2⟩
theorem Sat.rebox {P : Program} {F : Frm} {n : Nat} {env : List (Nat × SV)} {own : List Own} {c : Code} {K : Exit → St → Prop} (id : Nat) {blk ty : Nat} {cs : List SV} (cs' : List SV) (hid : own[id]? = some (.box blk ty cs)) (hs : simA cs cs')
    (h : Sat P F c ⟨n, env, own.set id (.box blk ty cs')⟩ K) : Sat P F c ⟨n, env, own⟩ K := by
  rintro R0 w0 a w ⟨ob, R, hr⟩
  obtain ⟨b1, b2, b3, b4⟩ := hr.own id _ hid
  have hset := hr.setOwn (o' := .box blk ty cs') (g := blk) hid rfl (fun b hb => by simpa [Own.blk] using hb.symm) (w' := w) rfl rfl rfl (Nat.le_refl _) (fun _ _ _ => rfl)
    ⟨b1, b2, by rw [← simA_den hs]; exact b3, fun x hx => by
      obtain ⟨y, hy, hxy⟩ := simA_mem hs x hx
      have := b4 y hy
      exact ⟨by rw [← hxy.1]; exact this.1, hxy.2 R w this.2⟩⟩
  exact h R0 w0 a w ⟨ob, R, hset⟩
end Eng
theorem ev_0 (es : List Evd) (i : Nat) : evRd es i 0 = .i .i64 (es.getD i default).kind := rfl
theorem ev_1 (es : List Evd) (i : Nat) : evRd es i 1 = .i .u32 (es.getD i default).a := rfl
theorem ev_2 (es : List Evd) (i : Nat) : evRd es i 2 = .i .u32 (es.getD i default).b := rfl
theorem ev_3 (es : List Evd) (i : Nat) : evRd es i 3 = .sl (es.getD i default).ad (es.getD i default).ids.length (es.getD i default).cap 3 (idnRd (es.getD i default).ids.toArray) := rfl
theorem c1I : ((1 : Nat) : Int) = 1 := rfl
theorem sim_tt : sim .tt (.b true) := ⟨rfl, fun _ _ _ => trivial⟩
def aw8 : Res := ⟨0, 0, 0, 0, 9, 17, 0, 3, true, false, 5, 5, 3, 0, 0, 0, 0⟩
theorem aw8_show : showR aw8 = some ⟨5, 9⟩ := by decide
theorem aw8_pairs {es : List Evd} (h : PairsOf [aw8] es) : ∃ ad cap, es = [⟨1, 5, 9, [⟨0, 0, 0⟩], ad, cap⟩] := by
  have key : ∀ p d, (∃ e ∈ es, e.pr = p ∧ d ∈ e.ids) ↔ p = ⟨5, 9⟩ ∧ d = ⟨0, 0, 0⟩ := fun p d => (h.mem p d).trans (by
    constructor
    · rintro ⟨r, hr, h1, h2⟩
      rw [List.mem_singleton] at hr
      subst hr
      rw [aw8_show] at h1
      exact ⟨(Option.some.inj h1).symm, h2.symm⟩
    · rintro ⟨rfl, rfl⟩
      exact ⟨aw8, by simp, aw8_show, rfl⟩)
  have hall : ∀ e ∈ es, e.pr = ⟨5, 9⟩ ∧ e.ids = [⟨0, 0, 0⟩] := fun e he => by
    obtain ⟨_, hp, hne, _⟩ := h.each e he
    have hd : ∀ d ∈ e.ids, e.pr = ⟨5, 9⟩ ∧ d = ⟨0, 0, 0⟩ := fun d hd => (key e.pr d).1 ⟨e, he, rfl, hd⟩
    match hi : e.ids, hne with
    | [x], _ => rw [hi] at hd; obtain ⟨h1, h2⟩ := hd x (by simp); exact ⟨h1, by rw [h2]⟩
    | x :: y :: l, _ =>
      rw [hi] at hd hp
      have h1 := (hd x (by simp)).2
      have h2 := (hd y (by simp)).2
      have := (List.pairwise_cons.1 hp).1 y (by simp)
      rw [h1, h2, idnLt_irrefl] at this
      cases this
  obtain ⟨e0, he0, _, _⟩ := (key ⟨5, 9⟩ ⟨0, 0, 0⟩).2 ⟨rfl, rfl⟩
  match es, h, hall, he0 with
  | [e], h, hall, _ =>
    obtain ⟨h1, h2⟩ := hall e (by simp)
    have h3 := (h.each e (by simp)).1
    obtain ⟨k, a, b, ids, ad, cap⟩ := e
    simp only [Evd.pr, Par.mk.injEq] at h1 h2 h3
    obtain ⟨rfl, rfl⟩ := h1
    subst h2 h3
    exact ⟨ad, cap, rfl⟩
  | x :: y :: l, h, hall, _ =>
    have h1 := (hall x (by simp)).1
    have h2 := (hall y (by simp)).1
    have := (List.pairwise_cons.1 h.asc).1 y (by simp)
    rw [h1, h2, parLt_irrefl] at this
    cases this
theorem pairs2 (F : Frm) (bs : Nat) (ead : Option Addr) (ecap : Nat) : Contract F Tryz.prog 19 [.sl (some ⟨bs, 0, none⟩) 1 1 17 (resRd [aw8].toArray), evAg ⟨1, 5, 9, [⟨0, 0, 0⟩], ead, ecap⟩] (fun r => r = .b (holdsV [aw8] ⟨1, 5, 9, [⟨0, 0, 0⟩], ead, ecap⟩)) :=
  holdsC F (some ⟨bs, 0, none⟩) 1 [aw8] ⟨1, 5, 9, [⟨0, 0, 0⟩], ead, ecap⟩ (by decide) (show 1 ≤ 1000000000 by decide)
theorem holdsN (F : Frm) (ead : Option Addr) (ecap : Nat) : Contract F Tryz.prog 19 [.sl none 0 0 0 fun _ _ => .v undef, evAg ⟨1, 5, 9, [⟨0, 0, 0⟩], ead, ecap⟩] (fun r => r = .b (holdsV [] ⟨1, 5, 9, [⟨0, 0, 0⟩], ead, ecap⟩)) :=
  Contract.of_sim (holdsC F none 0 [] ⟨1, 5, 9, [⟨0, 0, 0⟩], ead, ecap⟩ (by decide) (show 1 ≤ 1000000000 by decide)) ⟨⟨rfl, fun R w _ => ⟨Nat.le_refl _, Nat.zero_le _, .inl rfl⟩⟩, sim_refl _, trivial⟩
set_option maxHeartbeats 1000000 in
set_option maxRecDepth 100000 in
theorem awakeC (F : Frm) : Contract F Tryz.prog 4 [] (fun r => r = .b true) := by
  refine contract_of Tryz.func4 rfl (by kernel_rfl) ?_
  simp only [Tryz.ntmps4, argEnv]
  (repeat refine Sat.seq ?_)
  (refine Sat.region_k fun k hk => ?_; simp -implicitDefEqProofs only [evr, id, seval, res_one, par_one, idn_one, idn_0, idn_1, idn_2, resRow, res_ro, rExtract_tup, par_eq, ev_0, ev_1, ev_2, ev_3, c1I, evn]; refine hk _ ?_; clear hk k; try show Sat _ _ _ _ _)
  (repeat refine Sat.seq ?_)
  (refine Sat.region_k fun k hk => ?_; simp -implicitDefEqProofs only [evr, id, seval, res_one, par_one, idn_one, idn_0, idn_1, idn_2, resRow, res_ro, rExtract_tup, par_eq, ev_0, ev_1, ev_2, ev_3, c1I, evn])
  intro b1
  (refine hk _ ?_; clear hk k; try show Sat _ _ _ _ _)
  refine Sat.rebox 0 (Res.cs aw8) rfl ⟨sim_refl _, sim_refl _, sim_refl _, sim_refl _, sim_refl _, sim_refl _, sim_refl _, sim_refl _, sim_tt, sim_refl _, sim_refl _, sim_refl _, sim_refl _, sim_refl _, sim_refl _, sim_refl _, sim_refl _, trivial⟩ ?_
  simp only [Res.cs, aw8, List.set_cons_zero]
  have hrow : rdEq 1 17 (rdL (Res.cs aw8) 17) (resRd [aw8].toArray) := by
    intro i j hi hj
    obtain rfl : i = 0 := by omega
    unfold rdL resRd
    rw [Nat.zero_mul, Nat.zero_add]
    rfl
  have hin : ∀ r ∈ [aw8], RgR r := by unfold RgR; decide
  (repeat refine Sat.seq ?_)
  (refine Sat.region_k fun k hk => ?_; simp -implicitDefEqProofs only [evr, id, seval, res_one, par_one, idn_one, idn_0, idn_1, idn_2, resRow, res_ro, rExtract_tup, par_eq, ev_0, ev_1, ev_2, ev_3, c1I, evn])
  intro bs
  refine wcall_slice (Contract.of_sim (args := [.sl (some ⟨bs, 0, none⟩) 1 1 17 (rdL (Res.cs aw8) 17)]) (pairsC F (some ⟨bs, 0, none⟩) 1 [aw8] (by decide) hin) ⟨sim_sl hrow, trivial⟩) rfl (by simp only [Res.cs, aw8, evr, id, seval, res_one, par_one, idn_one, idn_0, idn_1, idn_2, List.append_nil, Int.toNat_zero, Nat.sub_self, Int.reduceToNat, resRow, res_ro, rExtract_tup, par_eq, ev_0, ev_1, ev_2, ev_3, c1I]; try rfl) ?_
  rintro r (⟨hbad, _⟩ | ⟨_, a, c, es, hes, rfl⟩)
  · exact absurd hbad (by decide)
  obtain ⟨ead, ecap, rfl⟩ := aw8_pairs hes
  simp -implicitDefEqProofs only [evr, id, seval, res_one, par_one, idn_one, idn_0, idn_1, idn_2, resRow, res_ro, rExtract_tup, par_eq, ev_0, ev_1, ev_2, ev_3, c1I, evn]
  (refine hk _ ?_; clear hk k; try show Sat _ _ _ _ _)
  (repeat refine Sat.seq ?_)
  (refine Sat.region_k fun k hk => ?_; simp -implicitDefEqProofs only [evr, id, seval, res_one, par_one, idn_one, idn_0, idn_1, idn_2, resRow, res_ro, rExtract_tup, par_eq, ev_0, ev_1, ev_2, ev_3, c1I, evn])
  refine wcall_plain (showC F aw8) (by simp only [resAg, Res.cs, aw8, evr, id, seval, res_one, par_one, idn_one, idn_0, idn_1, idn_2, List.append_nil, Int.toNat_zero, Nat.sub_self, Int.reduceToNat, resRow, res_ro, rExtract_tup, par_eq, ev_0, ev_1, ev_2, ev_3, c1I]; try rfl) (by rintro _ rfl; exact showS_ok _) ?_
  rintro _ rfl
  rw [aw8_show]
  simp only [showS, tupL, parAg, Par.cs, evr, id, seval, res_one, par_one, idn_one, idn_0, idn_1, idn_2, List.append_nil, Int.toNat_zero, Nat.sub_self, Int.reduceToNat, resRow, res_ro, rExtract_tup, par_eq, ev_0, ev_1, ev_2, ev_3, c1I]
  intro b4
  (refine hk _ ?_; clear hk k; try show Sat _ _ _ _ _)
  have hv : validEv ⟨1, 5, 9, [⟨0, 0, 0⟩], ead, ecap⟩ = true := by rfl
  have hh : holdsV [aw8] ⟨1, 5, 9, [⟨0, 0, 0⟩], ead, ecap⟩ = true := by rfl
  have hn : holdsV [] ⟨1, 5, 9, [⟨0, 0, 0⟩], ead, ecap⟩ = false := by rfl
  (repeat refine Sat.seq ?_)
  (refine Sat.region_tree (.keep [0, 1, 2, 3, 4, 5, 6, 7, 8, 9, 10, 11, 12, 13, 14, 15, 16, 17, 18, 19, 20, 21, 22, 23, 24, 25, 26, 27, 28, 29, 30, 31] [] (.one 32 (.one 33 (.one 34 (.one 35 (.one 36 (.one 37 (.free 39 (.one 38 (.one 40 (.one 41 (.one 42 (.free 45 (.free 46 (.alt 43 (.alt 44 (.one 47 (.one 48 (.one 49 (.one 50 (.one 51 (.one 52 (.one 53 (.one 54 (.one 55 (.one 56 (.one 57 .done))))))))))) (.alt 47 (.one 44 (.one 48 (.one 49 (.one 50 (.one 51 (.one 52 (.one 53 (.one 54 (.one 55 (.one 56 (.one 57 .done))))))))))) .none)) (.alt 47 (.one 43 (.one 44 (.one 48 (.one 49 (.one 50 (.one 51 (.one 52 (.one 53 (.one 54 (.one 55 (.one 56 (.one 57 .done)))))))))))) .none)))))))))))))))) (by kernel_rfl) (by kernel_rfl) (fun _ _ h => h) fun k hk => ?_; simp only [WOT, List.map_cons, List.map_nil, List.getD_cons_zero, List.getD_cons_succ]; simp -implicitDefEqProofs only [evr, id, seval, res_one, par_one, idn_one, idn_0, idn_1, idn_2, resRow, res_ro, rExtract_tup, par_eq, ev_0, ev_1, ev_2, ev_3, c1I, WOT, evn])
  repeat' (first
    | (with_reducible refine And.intro ?_ ?_)
    | omega
    | decide
    | (refine wcall_plain (validEvC F ⟨1, 5, 9, [⟨0, 0, 0⟩], ead, ecap⟩ (show 1 ≤ 1000000000 by decide)) rfl (by rintro _ rfl; exact ok_plain rfl) ?_
       rintro _ rfl
       rw [hv]
       simp -implicitDefEqProofs only [evr, id, seval, res_one, par_one, idn_one, idn_0, idn_1, idn_2, resRow, res_ro, rExtract_tup, par_eq, ev_0, ev_1, ev_2, ev_3, c1I, evn])
    | (refine wcall_slice (Contract.of_sim (args := [.sl (some ⟨bs2, 0, none⟩) 1 1 17 (rdL (Res.cs aw8) 17), evAg ⟨1, 5, 9, [⟨0, 0, 0⟩], ead, ecap⟩]) (pairs2 F bs2 ead ecap) ⟨sim_sl hrow, sim_refl _, trivial⟩) rfl (by simp only [evAg, Evd.cs, Res.cs, aw8, evr, id, seval, res_one, par_one, idn_one, idn_0, idn_1, idn_2, List.append_nil, Int.toNat_zero, Nat.sub_self, Int.reduceToNat, resRow, res_ro, rExtract_tup, par_eq, ev_0, ev_1, ev_2, ev_3, c1I]; rfl) ?_
       rintro _ rfl
       rw [hh]
       simp -implicitDefEqProofs only [evr, id, seval, res_one, par_one, idn_one, idn_0, idn_1, idn_2, resRow, res_ro, rExtract_tup, par_eq, ev_0, ev_1, ev_2, ev_3, c1I, evn])
    | (refine wcall_plain (holdsN F ead ecap) rfl (by rintro _ rfl; exact ok_plain rfl) ?_
       rintro _ rfl
       rw [hn]
       simp -implicitDefEqProofs only [evr, id, seval, res_one, par_one, idn_one, idn_0, idn_1, idn_2, resRow, res_ro, rExtract_tup, par_eq, ev_0, ev_1, ev_2, ev_3, c1I, evn])
    | (with_reducible intro bs2)
    | (refine hk _ ?_
       simp only [thenK]
       refine Sat.ret ?_
       simp only [Tryz.results4, evr, id, seval, res_one, par_one, idn_one, idn_0, idn_1, idn_2, List.append_nil, Int.toNat_zero, Nat.sub_self, Int.reduceToNat, resRow, res_ro, rExtract_tup, par_eq, ev_0, ev_1, ev_2, ev_3, c1I]
       done))
end Go.Proofs.YtepbdjpcoleegaaGreat
