/- dice.Entry, by the evaluator. -/
import Derived.Test.YtepkbbmjbbnhnaaGreatDoorDicR
import Derived.Test.YtepkbbmjbbnhnaaGreatDoorRgsE
import Derived.Test.YtepkbbmjbbnhnaaGreatDoorSetB
set_option linter.unusedSimpArgs false
set_option linter.unusedVariables false
namespace Go.Proofs.YtepkbbmjbbnhnaaGreatDoor
open Go.Sort Eng
def adN (x m : Nat) : Nat := (167772160 + x) / 2 ^ (32 - m) * 2 ^ (32 - m)
theorem adN_lt (x m : Nat) (hx : x ≤ 13) : adN x m < 2 ^ 32 := Nat.lt_of_le_of_lt (Nat.div_mul_le_self _ _) (by omega)
theorem adN_eq {x m : Nat} (hx : x ≤ 13) (hm : m ≤ 32) : IntKind.u32.wrap (((167772160 + x : Nat) : Int).fdiv (2 ^ min (IntKind.i64.wrap (32 - (m : Int))).toNat IntKind.u32.bits) * 2 ^ min (IntKind.i64.wrap (32 - (m : Int))).toNat IntKind.u32.bits) = (adN x m : Int) := by
  have e1 : (IntKind.i64.wrap (32 - (m : Int))).toNat = 32 - m := by rw [w64 (by omega)]; omega
  have e2 : min (32 - m) IntKind.u32.bits = 32 - m := by show min (32 - m) 32 = _; omega
  have e3 : (2 : Int) ^ (32 - m) = ((2 ^ (32 - m) : Nat) : Int) := by simp
  rw [e1, e2, e3, Int.fdiv_eq_ediv_of_nonneg _ (Int.natCast_nonneg _), ← Int.natCast_ediv, ← Int.natCast_mul, IntKind.wrap_u32]
  have := adN_lt x m hx
  unfold adN at this ⊢
  omega
def DrEnt (e : Ent) : Prop := (∃ x m : Nat, x ≤ 13 ∧ 8 ≤ m ∧ m ≤ 32 ∧ e.addr = adN x m ∧ e.len = m) ∧ 1 ≤ e.prov ∧ e.prov ≤ 4 ∧ 0 ≤ e.from_ ∧ e.from_ ≤ 300
theorem DrEnt.ok {e : Ent} (h : DrEnt e) {u : Int} (h1 : e.from_ < u) (h2 : u ≤ 1125899906842624) : EntOk ⟨e.addr, e.len, e.prov, e.from_, u⟩ ∧ eOk ⟨e.addr, e.len, e.prov, e.from_, u⟩ := by
  obtain ⟨⟨x, m, hx, h8, h32, ha, hl⟩, g1, g2, g3, g4⟩ := h
  refine ⟨⟨?_, g1, by show e.prov ≤ _; omega, g3, h1, h2⟩, by show e.addr < _; rw [ha]; exact adN_lt x m hx⟩
  rw [vld_iff]
  refine ⟨by show 0 ≤ e.len; omega, by show e.len ≤ 32; omega, ?_⟩
  show e.addr % 2 ^ (Prf.k ⟨e.addr, e.len⟩) = 0
  have : Prf.k ⟨e.addr, e.len⟩ = 32 - m := by unfold Prf.k; simp only [hl]; omega
  rw [this, ha]
  unfold adN
  exact Nat.mul_mod_left _ _
set_option maxRecDepth 100000 in
theorem diceEntryC (cb : Nat) : Contract (Frm.codes cb) Tryz.prog 22 [ptr cb] (fun r => ∃ e : Ent, r = entS e ∧ EntOk e ∧ eOk e) := by
  refine contract_of Tryz.func22 rfl (by kernel_rfl) ?_
  simp only [Tryz.ntmps22, argEnv, ptr]
  (repeat refine Sat.seq ?_)
  (refine Sat.region_k fun k hk => ?_; simp -implicitDefEqProofs only [evr, id, seval, ptr, evn])
  intro b2
  (refine hk _ ?_; clear hk k; try show Sat _ _ _ _ _)
  (repeat refine Sat.seq ?_)
  (refine Sat.region_k fun k hk => ?_; simp -implicitDefEqProofs only [evr, id, seval, ptr, evn])
  intro blk
  refine wcall_plain (pickI cb blk [8, 24, 28, 29, 30, 30, 31, 32] (fun x => 8 ≤ x ∧ x ≤ 32) (by decide) (by decide) (by decide)) (by simp -implicitDefEqProofs only [evr, id, seval, ptr, evn]) plain_pick ?_
  rintro r ⟨n, rfl, hn0, hn1⟩
  obtain ⟨m, rfl⟩ := Int.eq_ofNat_of_zero_le (show 0 ≤ n by omega)
  simp -implicitDefEqProofs only [evr, id, seval, ptr, evn]
  (refine hk _ ?_; clear hk k; try show Sat _ _ _ _ _)
  (repeat refine Sat.seq ?_)
  (refine Sat.region_k fun k hk => ?_; simp -implicitDefEqProofs only [evr, id, seval, ptr, evn])
  refine wcall_plain (addressC cb) (by simp -implicitDefEqProofs only [evr, id, seval, ptr, evn]) (by rintro _ ⟨x, rfl, _⟩; exact ok_plain rfl) ?_
  rintro r ⟨x, rfl, hx⟩
  simp -implicitDefEqProofs only [evr, id, seval, ptr, evn]
  (refine hk _ ?_; clear hk k; try show Sat _ _ _ _ _)
  (repeat refine Sat.seq ?_)
  have e1 := adN_eq hx (show m ≤ 32 by omega)
  have e2 : 0 ≤ IntKind.i64.wrap (32 - (m : Int)) := by rw [w64 (by omega)]; omega
  refine Sat.join2 (ι := Bool × Nat × Ent) (fun z => ⟨38, [(5, .op (if z.1 then 2 else 3) z.2.1 0), (2, .op 0 b2 0), (0, .v (.pointer (some ⟨cb, 0, none⟩)))], [.box b2 31 [.i .u32 0, .i .i64 0, .i .i64 0, .i .i64 0, .i .i64 0], .gone,
    if z.1 then .box z.2.1 31 [.i .u32 z.2.2.addr, .i .i64 z.2.2.len, .i .i64 z.2.2.prov, .i .i64 z.2.2.from_, .i .i64 0] else .gone, if z.1 then .gone else .box z.2.1 31 [.i .u32 z.2.2.addr, .i .i64 z.2.2.len, .i .i64 z.2.2.prov, .i .i64 z.2.2.from_, .i .i64 0]]⟩) (fun z => DrEnt z.2.2) (fun hrest => ?_) ?_
  · (refine Sat.region_tree (.keep [0, 1, 2, 3, 4, 5, 6, 7, 8, 9, 12] [] (.alt 10 (.free 11 (.alt 13 (.alt 14 (.free 15 (.one 16 (.one 17 .done))) (.alt 16 (.one 14 (.one 15 (.one 17 .done))) .none)) (.alt 16 (.one 13 (.one 14 (.one 15 (.one 17 .done)))) .none))) (.alt 13 (.alt 10 (.free 11 (.alt 14 (.free 15 (.one 16 (.one 17 .done))) (.alt 16 (.one 14 (.one 15 (.one 17 .done))) .none))) (.alt 16 (.one 10 (.free 11 (.one 14 (.one 15 (.one 17 .done))))) .none)) (.alt 16 (.alt 10 (.free 11 (.one 13 (.one 14 (.one 15 (.one 17 .done))))) (.alt 13 (.one 10 (.free 11 (.one 14 (.one 15 (.one 17 .done))))) .none)) .none)))) (by kernel_rfl) (by kernel_rfl) (fun _ _ h => h) fun k hk => ?_; simp only [WOT, List.map_cons, List.map_nil, List.getD_cons_zero, List.getD_cons_succ]; simp -implicitDefEqProofs only [evr, id, seval, ptr, WOT, evn])
    simp only [e1]
    refine ⟨e2, e2, ?_⟩
    have hD : ∀ p q : Int, 0 ≤ p → p < 4 → 0 ≤ q → q ≤ 300 → DrEnt ⟨adN x m, m, 1 + p, q, 0⟩ := fun p q h1 h2 h3 h4 => ⟨⟨x, m, hx, by omega, by omega, rfl, rfl⟩, by show 1 ≤ 1 + p; omega, by show 1 + p ≤ 4; omega, h3, h4⟩
    repeat' (first
      | (with_reducible refine And.intro ?_ ?_)
      | (with_reducible intro)
      | (refine wcall_plain (nextC cb 4 (by omega) (by omega)) rfl (by rintro _ ⟨x, rfl, _⟩; exact ok_plain rfl) ?_
         rintro r ⟨p, rfl, hp0, hp1⟩
         have e4 : IntKind.i64.wrap (1 + p) = 1 + p := w64 (by omega)
         simp -implicitDefEqProofs only [evr, id, seval, ptr, e4, evn])
      | (rename_i c1
         refine wcall_plain (pickI cb c1 [0, 0, 0, 50, 300] (fun x => 0 ≤ x ∧ x ≤ 300) (by decide) (by decide) (by decide)) ?_ plain_pick ?_
         focus
          simp -implicitDefEqProofs only [evr, id, seval, ptr, evn]
          done
         rintro r ⟨q, rfl, hq0, hq1⟩
         simp -implicitDefEqProofs only [evr, id, seval, ptr, evn])
      | (rename_i c1 c2
         refine wcall_plain (pickI cb c1 [0, 0, 0, 50, 300] (fun x => 0 ≤ x ∧ x ≤ 300) (by decide) (by decide) (by decide)) ?_ plain_pick ?_
         focus
          simp -implicitDefEqProofs only [evr, id, seval, ptr, evn]
          done
         rintro r ⟨q, rfl, hq0, hq1⟩
         simp -implicitDefEqProofs only [evr, id, seval, ptr, evn]))
    repeat' (first
      | (refine hk _ ?_
         simp only [thenK]
         first
         | (refine (hrest (true, c1, ⟨adN x m, m, 1 + p, q, 0⟩) (hD p q hp0 (by omega) hq0 hq1)).le ?_
            simp only [if_true, if_false, Bool.false_eq_true]
            simp -implicitDefEqProofs only [evr, id, seval, ptr, evl, evn]
            done)
         | (refine (hrest (true, c2, ⟨adN x m, m, 1 + p, q, 0⟩) (hD p q hp0 (by omega) hq0 hq1)).le ?_
            simp only [if_true, if_false, Bool.false_eq_true]
            simp -implicitDefEqProofs only [evr, id, seval, ptr, evl, evn]
            done)
         | (refine (hrest (false, c1, ⟨adN x m, m, 1 + p, q, 0⟩) (hD p q hp0 (by omega) hq0 hq1)).le ?_
            simp only [if_true, if_false, Bool.false_eq_true]
            simp -implicitDefEqProofs only [evr, id, seval, ptr, evl, evn]
            done)
         | (refine (hrest (false, c2, ⟨adN x m, m, 1 + p, q, 0⟩) (hD p q hp0 (by omega) hq0 hq1)).le ?_
            simp only [if_true, if_false, Bool.false_eq_true]
            simp -implicitDefEqProofs only [evr, id, seval, ptr, evl, evn]
            done))
      | (rename_i c2
         refine hk _ ?_
         simp only [thenK]
         first
         | (refine (hrest (true, c1, ⟨adN x m, m, 1 + p, q, 0⟩) (hD p q hp0 (by omega) hq0 hq1)).le ?_
            simp only [if_true, if_false, Bool.false_eq_true]
            simp -implicitDefEqProofs only [evr, id, seval, ptr, evl, evn]
            done)
         | (refine (hrest (true, c2, ⟨adN x m, m, 1 + p, q, 0⟩) (hD p q hp0 (by omega) hq0 hq1)).le ?_
            simp only [if_true, if_false, Bool.false_eq_true]
            simp -implicitDefEqProofs only [evr, id, seval, ptr, evl, evn]
            done)
         | (refine (hrest (false, c1, ⟨adN x m, m, 1 + p, q, 0⟩) (hD p q hp0 (by omega) hq0 hq1)).le ?_
            simp only [if_true, if_false, Bool.false_eq_true]
            simp -implicitDefEqProofs only [evr, id, seval, ptr, evl, evn]
            done)
         | (refine (hrest (false, c2, ⟨adN x m, m, 1 + p, q, 0⟩) (hD p q hp0 (by omega) hq0 hq1)).le ?_
            simp only [if_true, if_false, Bool.false_eq_true]
            simp -implicitDefEqProofs only [evr, id, seval, ptr, evl, evn]
            done)))
  · rintro ⟨b, b5, e⟩ hD
    simp only at hD ⊢
    have h1 := hD.2.2.2.1
    have h2 := hD.2.2.2.2
    have e5 : IntKind.i64.wrap (e.from_ + 1) = e.from_ + 1 := w64 (by omega)
    cases b
    all_goals
      simp only [if_true, if_false, Bool.false_eq_true, Ent.cs]
      (repeat refine Sat.seq ?_)
      (refine Sat.region_rows [⟨0, 28, 1, 0⟩, ⟨0, 29, 32, 0⟩, ⟨2, 30, 268435456, 1⟩, ⟨4, 31, 536870912, 0⟩, ⟨0, 32, 1, 0⟩, ⟨16, 33, 2147483648, 2⟩, ⟨40, 34, 5368709120, 0⟩, ⟨64, 35, 8589934592, 2⟩, ⟨161, 36, 17314086912, 2⟩, ⟨511, 37, 32, 0⟩, ⟨1023, 0, 103079215104, 2⟩] [0, 1, 4, 2, 3] [(5, false), (6, false), (7, false), (8, false), (9, false), (10, false)] [5] (by kernel_rfl) (by kernel_rfl) (fun _ _ h => h) fun k hk => ?_; simp only [List.map_cons, List.map_nil, List.getD_cons_zero, List.getD_cons_succ, btseq_cons, btseq_free, btseq_nil]; simp -implicitDefEqProofs only [evr, id, seval, ptr, evn])
      simp only [e5]
      refine wcall_plain (nextC cb 600 (by omega) (by omega)) rfl (by rintro _ ⟨x, rfl, _⟩; exact ok_plain rfl) ?_
      rintro r ⟨u, rfl, hu0, hu1⟩
      have e6 : IntKind.i64.wrap (e.from_ + 1 + u) = e.from_ + 1 + u := w64 (by omega)
      simp -implicitDefEqProofs only [evr, id, seval, ptr, e6, evn]
      intro c1
      refine wcall_plain (pickI cb c1 [1125899906842624, 1125899906842624, 1125899906842624, e.from_ + 1 + u] (fun x => e.from_ < x ∧ x ≤ 1125899906842624) (by simp) (by simp) (fun x hx => by simp at hx; omega)) (by simp -implicitDefEqProofs only [evr, id, seval, ptr, evn]) plain_pick ?_
      rintro r ⟨v, rfl, hv0, hv1⟩
      simp -implicitDefEqProofs only [evr, id, seval, ptr, evn]
      (refine hk _ ?_; clear hk k; try show Sat _ _ _ _ _)
      (repeat refine Sat.seq ?_)
      (refine Sat.region_k fun k hk => ?_; simp -implicitDefEqProofs only [evr, id, seval, ptr, evn]; refine hk _ ?_; clear hk k; try show Sat _ _ _ _ _)
      refine Sat.ret ?_
      simp only [Tryz.results22, evr, id, seval, ptr, List.append_nil, Int.toNat_zero, Nat.sub_self]
      exact ⟨⟨e.addr, e.len, e.prov, e.from_, v⟩, rfl, hD.ok hv0 hv1⟩
end Go.Proofs.YtepkbbmjbbnhnaaGreatDoor
