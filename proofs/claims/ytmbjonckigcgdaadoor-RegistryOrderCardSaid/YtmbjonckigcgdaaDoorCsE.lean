/- As DieE, over choices whose row lies in a known set of blocks. Printed by gen_cs.py. -/
import Derived.Test.YtmbjonckigcgdaaDoorCsD
import Derived.Test.YtmbjonckigcgdaaDoorDieE
set_option linter.unusedSimpArgs false
set_option linter.unusedVariables false
namespace Go.Proofs.YtmbjonckigcgdaaDoor.Cs
open Go.Sort Eng
set_option maxRecDepth 100000 in
theorem diceEntryC (S : Nat → Prop) (cb : Nat) : Contract (Frm.codesS S cb) Tryd.prog 14 [ptr cb] (fun r => ∃ e : Ent, r = entS e ∧ EntOk e ∧ eOk e) := by
  refine contract_of Tryd.func14 rfl (by kernel_rfl) ?_
  simp only [Tryd.ntmps14, argEnv, ptr]
  (repeat refine Sat.seq ?_)
  (refine Sat.region_k fun k hk => ?_; simp -implicitDefEqProofs only [evr, id, seval, ptr, evn])
  intro b2
  (refine hk _ ?_; clear hk k; try show Sat _ _ _ _ _)
  (repeat refine Sat.seq ?_)
  (refine Sat.region_k fun k hk => ?_; simp -implicitDefEqProofs only [evr, id, seval, ptr, evn])
  intro blk
  refine wcall_plain (pickI S cb blk [8, 24, 28, 29, 30, 30, 31, 32] (fun x => 8 ≤ x ∧ x ≤ 32) (by decide) (by decide) (by decide)) (by simp -implicitDefEqProofs only [evr, id, seval, ptr, evn]) plain_pick ?_
  rintro r ⟨n, rfl, hn0, hn1⟩
  obtain ⟨m, rfl⟩ := Int.eq_ofNat_of_zero_le (show 0 ≤ n by omega)
  simp -implicitDefEqProofs only [evr, id, seval, ptr, evn]
  (refine hk _ ?_; clear hk k; try show Sat _ _ _ _ _)
  (repeat refine Sat.seq ?_)
  (refine Sat.region_k fun k hk => ?_; simp -implicitDefEqProofs only [evr, id, seval, ptr, evn])
  refine wcall_plain (addressC S cb) (by simp -implicitDefEqProofs only [evr, id, seval, ptr, evn]) (by rintro _ ⟨x, rfl, _⟩; exact ok_plain rfl) ?_
  rintro r ⟨x, rfl, hx⟩
  simp -implicitDefEqProofs only [evr, id, seval, ptr, evn]
  (refine hk _ ?_; clear hk k; try show Sat _ _ _ _ _)
  (repeat refine Sat.seq ?_)
  have e1 := adN_eq hx (show m ≤ 32 by omega)
  have e2 : 0 ≤ IntKind.i64.wrap (32 - (m : Int)) := by rw [w64 (by omega)]; omega
  refine Sat.join2 (ι := Bool × Nat × Ent) (fun z => ⟨38, [(5, .op (if z.1 then 2 else 3) z.2.1 0), (2, .op 0 b2 0), (0, .v (.pointer (some ⟨cb, 0, none⟩)))], [.box b2 37 [.i .u32 0, .i .i64 0, .i .i64 0, .i .i64 0, .i .i64 0], .gone,
    if z.1 then .box z.2.1 37 [.i .u32 z.2.2.addr, .i .i64 z.2.2.len, .i .i64 z.2.2.prov, .i .i64 z.2.2.from_, .i .i64 0] else .gone, if z.1 then .gone else .box z.2.1 37 [.i .u32 z.2.2.addr, .i .i64 z.2.2.len, .i .i64 z.2.2.prov, .i .i64 z.2.2.from_, .i .i64 0]]⟩) (fun z => DrEnt z.2.2) (fun hrest => ?_) ?_
  · (refine Sat.region_tree (.keep [0, 1, 2, 3, 4, 5, 6, 7, 8, 9, 12] [] (.alt 10 (.free 11 (.alt 13 (.alt 14 (.free 15 (.one 16 (.one 17 .done))) (.alt 16 (.one 14 (.one 15 (.one 17 .done))) .none)) (.alt 16 (.one 13 (.one 14 (.one 15 (.one 17 .done)))) .none))) (.alt 13 (.alt 10 (.free 11 (.alt 14 (.free 15 (.one 16 (.one 17 .done))) (.alt 16 (.one 14 (.one 15 (.one 17 .done))) .none))) (.alt 16 (.one 10 (.free 11 (.one 14 (.one 15 (.one 17 .done))))) .none)) (.alt 16 (.alt 10 (.free 11 (.one 13 (.one 14 (.one 15 (.one 17 .done))))) (.alt 13 (.one 10 (.free 11 (.one 14 (.one 15 (.one 17 .done))))) .none)) .none)))) (by kernel_rfl) (by kernel_rfl) (fun _ _ h => h) fun k hk => ?_; simp only [WOT, List.map_cons, List.map_nil, List.getD_cons_zero, List.getD_cons_succ]; simp -implicitDefEqProofs only [evr, id, seval, ptr, WOT, evn])
    simp only [e1]
    refine ⟨e2, e2, ?_⟩
    have hD : ∀ p q : Int, 0 ≤ p → p < 4 → 0 ≤ q → q ≤ 300 → DrEnt ⟨adN x m, m, 1 + p, q, 0⟩ := fun p q h1 h2 h3 h4 => ⟨⟨x, m, hx, by omega, by omega, rfl, rfl⟩, by show 1 ≤ 1 + p; omega, by show 1 + p ≤ 4; omega, h3, h4⟩
    repeat' (first
      | (with_reducible refine And.intro ?_ ?_)
      | (with_reducible intro)
      | (refine wcall_plain (nextC S cb 4 (by omega) (by omega)) rfl (by rintro _ ⟨x, rfl, _⟩; exact ok_plain rfl) ?_
         rintro r ⟨p, rfl, hp0, hp1⟩
         have e4 : IntKind.i64.wrap (1 + p) = 1 + p := w64 (by omega)
         simp -implicitDefEqProofs only [evr, id, seval, ptr, e4, evn])
      | (rename_i c1
         refine wcall_plain (pickI S cb c1 [0, 0, 0, 50, 300] (fun x => 0 ≤ x ∧ x ≤ 300) (by decide) (by decide) (by decide)) ?_ plain_pick ?_
         focus
          simp -implicitDefEqProofs only [evr, id, seval, ptr, evn]
          done
         rintro r ⟨q, rfl, hq0, hq1⟩
         simp -implicitDefEqProofs only [evr, id, seval, ptr, evn])
      | (rename_i c1 c2
         refine wcall_plain (pickI S cb c1 [0, 0, 0, 50, 300] (fun x => 0 ≤ x ∧ x ≤ 300) (by decide) (by decide) (by decide)) ?_ plain_pick ?_
         focus
          simp -implicitDefEqProofs only [evr, id, seval, ptr, evn]
          done
         rintro r ⟨q, rfl, hq0, hq1⟩
         simp -implicitDefEqProofs only [evr, id, seval, ptr, evn]))
    repeat' (first
      | (refine hk _ ?_
         simp only [thenK]
         first
         | (refine (hrest (true, c1, ⟨adN x m, m, 1 + p, q, 0⟩) (hD p q hp0 (by omega) hq0 hq1)).le ?_
            simp only [if_true, if_false, Bool.false_eq_true]
            simp -implicitDefEqProofs only [evr, id, seval, ptr, evl, evn]
            done)
         | (refine (hrest (true, c2, ⟨adN x m, m, 1 + p, q, 0⟩) (hD p q hp0 (by omega) hq0 hq1)).le ?_
            simp only [if_true, if_false, Bool.false_eq_true]
            simp -implicitDefEqProofs only [evr, id, seval, ptr, evl, evn]
            done)
         | (refine (hrest (false, c1, ⟨adN x m, m, 1 + p, q, 0⟩) (hD p q hp0 (by omega) hq0 hq1)).le ?_
            simp only [if_true, if_false, Bool.false_eq_true]
            simp -implicitDefEqProofs only [evr, id, seval, ptr, evl, evn]
            done)
         | (refine (hrest (false, c2, ⟨adN x m, m, 1 + p, q, 0⟩) (hD p q hp0 (by omega) hq0 hq1)).le ?_
            simp only [if_true, if_false, Bool.false_eq_true]
            simp -implicitDefEqProofs only [evr, id, seval, ptr, evl, evn]
            done))
      | (rename_i c2
         refine hk _ ?_
         simp only [thenK]
         first
         | (refine (hrest (true, c1, ⟨adN x m, m, 1 + p, q, 0⟩) (hD p q hp0 (by omega) hq0 hq1)).le ?_
            simp only [if_true, if_false, Bool.false_eq_true]
            simp -implicitDefEqProofs only [evr, id, seval, ptr, evl, evn]
            done)
         | (refine (hrest (true, c2, ⟨adN x m, m, 1 + p, q, 0⟩) (hD p q hp0 (by omega) hq0 hq1)).le ?_
            simp only [if_true, if_false, Bool.false_eq_true]
            simp -implicitDefEqProofs only [evr, id, seval, ptr, evl, evn]
            done)
         | (refine (hrest (false, c1, ⟨adN x m, m, 1 + p, q, 0⟩) (hD p q hp0 (by omega) hq0 hq1)).le ?_
            simp only [if_true, if_false, Bool.false_eq_true]
            simp -implicitDefEqProofs only [evr, id, seval, ptr, evl, evn]
            done)
         | (refine (hrest (false, c2, ⟨adN x m, m, 1 + p, q, 0⟩) (hD p q hp0 (by omega) hq0 hq1)).le ?_
            simp only [if_true, if_false, Bool.false_eq_true]
            simp -implicitDefEqProofs only [evr, id, seval, ptr, evl, evn]
            done)))
  · rintro ⟨b, b5, e⟩ hD
    simp only at hD ⊢
    have h1 := hD.2.2.2.1
    have h2 := hD.2.2.2.2
    have e5 : IntKind.i64.wrap (e.from_ + 1) = e.from_ + 1 := w64 (by omega)
    cases b
    all_goals
      simp only [if_true, if_false, Bool.false_eq_true, Ent.cs]
      (repeat refine Sat.seq ?_)
      (refine Sat.region_rows [⟨0, 28, 1, 0⟩, ⟨0, 29, 32, 0⟩, ⟨2, 30, 268435456, 1⟩, ⟨4, 31, 536870912, 0⟩, ⟨0, 32, 1, 0⟩, ⟨16, 33, 2147483648, 2⟩, ⟨40, 34, 5368709120, 0⟩, ⟨64, 35, 8589934592, 2⟩, ⟨161, 36, 17314086912, 2⟩, ⟨511, 37, 32, 0⟩, ⟨1023, 0, 103079215104, 2⟩] [0, 1, 4, 2, 3] [(5, false), (6, false), (7, false), (8, false), (9, false), (10, false)] [5] (by kernel_rfl) (by kernel_rfl) (fun _ _ h => h) fun k hk => ?_; simp only [List.map_cons, List.map_nil, List.getD_cons_zero, List.getD_cons_succ, btseq_cons, btseq_free, btseq_nil]; simp -implicitDefEqProofs only [evr, id, seval, ptr, evn])
      simp only [e5]
      refine wcall_plain (nextC S cb 600 (by omega) (by omega)) rfl (by rintro _ ⟨x, rfl, _⟩; exact ok_plain rfl) ?_
      rintro r ⟨u, rfl, hu0, hu1⟩
      have e6 : IntKind.i64.wrap (e.from_ + 1 + u) = e.from_ + 1 + u := w64 (by omega)
      simp -implicitDefEqProofs only [evr, id, seval, ptr, e6, evn]
      intro c1
      refine wcall_plain (pickI S cb c1 [1125899906842624, 1125899906842624, 1125899906842624, e.from_ + 1 + u] (fun x => e.from_ < x ∧ x ≤ 1125899906842624) (by simp) (by simp) (fun x hx => by simp at hx; omega)) (by simp -implicitDefEqProofs only [evr, id, seval, ptr, evn]) plain_pick ?_
      rintro r ⟨v, rfl, hv0, hv1⟩
      simp -implicitDefEqProofs only [evr, id, seval, ptr, evn]
      (refine hk _ ?_; clear hk k; try show Sat _ _ _ _ _)
      (repeat refine Sat.seq ?_)
      (refine Sat.region_k fun k hk => ?_; simp -implicitDefEqProofs only [evr, id, seval, ptr, evn]; refine hk _ ?_; clear hk k; try show Sat _ _ _ _ _)
      refine Sat.ret ?_
      simp only [Tryd.results14, evr, id, seval, ptr, List.append_nil, Int.toNat_zero, Nat.sub_self]
      exact ⟨⟨e.addr, e.len, e.prov, e.from_, v⟩, rfl, hD.ok hv0 hv1⟩
end Go.Proofs.YtmbjonckigcgdaaDoor.Cs
