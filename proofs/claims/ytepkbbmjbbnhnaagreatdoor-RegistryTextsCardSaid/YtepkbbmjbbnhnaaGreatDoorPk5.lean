/- Choices: Pick, Bool, Address, by the evaluator. -/
import Derived.Test.YtepkbbmjbbnhnaaGreatDoorRolR
import Derived.Test.YtepkbbmjbbnhnaaGreatDoorRgsE
import Derived.Test.YtepkbbmjbbnhnaaGreatDoorSetB
import Derived.Test.YtepkbbmjbbnhnaaGreatDoorRtdE
import Derived.Test.YtepkbbmjbbnhnaaGreatDoorHisE
import Derived.Test.YtepkbbmjbbnhnaaGreatDoorRxJ
import Derived.Test.YtepkbbmjbbnhnaaGreatDoorRadE
import Derived.Test.YtepkbbmjbbnhnaaGreatDoorRtaE
import Derived.Test.YtepkbbmjbbnhnaaGreatDoorFmrE
import Derived.Test.YtepkbbmjbbnhnaaGreatDoorLkpE
import Derived.Test.YtepkbbmjbbnhnaaGreatDoorPvrE
set_option linter.unusedSimpArgs false
set_option linter.unusedVariables false
namespace Go.Proofs.YtepkbbmjbbnhnaaGreatDoor
open Eng
set_option maxRecDepth 100000 in
theorem pickC (cb : Nat) (a : Option Addr) (len cap : Nat) (rd : Nat → Nat → SV) (Q : Int → Prop) (h0 : 0 < len) (h1 : len ≤ 1000) (hq : ∀ i, i < len → ∃ x : Int, rd i 0 = .i .i64 x ∧ Q x) :
    Contract (Frm.codes cb) Tryz.prog 37 [ptr cb, .sl a len cap 1 rd] (fun r => ∃ x : Int, r = .i .i64 x ∧ Q x) := by
  refine contract_of Tryz.func37 rfl (by kernel_rfl) ?_
  simp only [Tryz.ntmps37, argEnv, ptr]
  (repeat refine Sat.seq ?_)
  (refine Sat.region_k fun k hk => ?_; simp -implicitDefEqProofs only [evr, id, seval, ptr]; refine hk _ ?_; clear hk k; try show Sat _ _ _ _ _)
  (repeat refine Sat.seq ?_)
  (refine Sat.region_k fun k hk => ?_; simp -implicitDefEqProofs only [evr, id, seval, ptr])
  refine wcall_plain (nextC cb len (by omega) (by omega)) rfl (by rintro _ ⟨x, rfl, _⟩; exact ok_plain rfl) ?_
  rintro r ⟨x, rfl, hx0, hx1⟩
  obtain ⟨i, rfl⟩ := Int.eq_ofNat_of_zero_le hx0
  have hi : i < len := by omega
  obtain ⟨y, hy, hQ⟩ := hq i hi
  simp -implicitDefEqProofs only [evr, id, seval, ptr, hy]
  refine ⟨by omega, ?_⟩
  (refine hk _ ?_; clear hk k; try show Sat _ _ _ _ _)
  refine Sat.ret ?_
  simp only [Tryz.results37, evr, id, seval, ptr]
  exact ⟨y, rfl, hQ⟩
theorem pickI (cb blk : Nat) (xs : List Int) (Q : Int → Prop) (h0 : 0 < xs.length) (h1 : xs.length ≤ 1000) (hQ : ∀ x ∈ xs, Q x) :
    Contract (Frm.codes cb) Tryz.prog 37 [ptr cb, .sl (some ⟨blk, 0, none⟩) xs.length xs.length 1 (rdL (xs.map (SV.i .i64)) 1)] (fun r => ∃ x : Int, r = .i .i64 x ∧ Q x) :=
  pickC cb _ _ _ _ Q h0 h1 fun i hi => ⟨xs.getD i 0, by simp [rdL, List.getD, hi], hQ _ (getD_mem hi)⟩
theorem plain_pick {Q : Int → Prop} (r : SV) (h : ∃ x : Int, r = .i .i64 x ∧ Q x) : ∀ R w, r.ok R w := by
  obtain ⟨x, rfl, _⟩ := h; exact ok_plain rfl
theorem plain_bool (r : SV) (h : ∃ b : Bool, r = .b b) : ∀ R w, r.ok R w := by
  obtain ⟨x, rfl⟩ := h; exact ok_plain rfl
theorem plain_addr (r : SV) (h : ∃ x : Int, r = .i .u32 x) : ∀ R w, r.ok R w := by
  obtain ⟨x, rfl⟩ := h; exact ok_plain rfl
set_option maxRecDepth 100000 in
theorem boolC (cb : Nat) (n : Int) (h1 : 1 ≤ n) (h2 : n ≤ 1000000) : Contract (Frm.codes cb) Tryz.prog 28 [ptr cb, .i .i64 n] (fun r => ∃ b : Bool, r = .b b) := by
  refine contract_of Tryz.func28 rfl (by kernel_rfl) ?_
  simp only [Tryz.ntmps28, argEnv, ptr]
  (repeat refine Sat.seq ?_)
  (refine Sat.region_k fun k hk => ?_; simp -implicitDefEqProofs only [evr, id, seval, ptr]; refine hk _ ?_; clear hk k; try show Sat _ _ _ _ _)
  (repeat refine Sat.seq ?_)
  (refine Sat.region_k fun k hk => ?_; simp -implicitDefEqProofs only [evr, id, seval, ptr])
  refine wcall_plain (nextC cb n (by omega) (by omega)) rfl (by rintro _ ⟨x, rfl, _⟩; exact ok_plain rfl) ?_
  rintro r ⟨x, rfl, hx0, hx1⟩
  simp -implicitDefEqProofs only [evr, id, seval, ptr]
  (refine hk _ ?_; clear hk k; try show Sat _ _ _ _ _)
  refine Sat.ret ?_
  simp only [Tryz.results28, evr, id, seval, ptr]
  exact ⟨_, rfl⟩
theorem w32p {x : Int} (h0 : 0 ≤ x) (h1 : x ≤ 13) : IntKind.u32.wrap (IntKind.i64.wrap (167772160 + x)) = ((167772160 + x.toNat : Nat) : Int) := by
  rw [w64 (by omega), IntKind.wrap_u32]
  omega
set_option maxRecDepth 100000 in
theorem addressC (cb : Nat) : Contract (Frm.codes cb) Tryz.prog 12 [ptr cb] (fun r => ∃ x : Nat, r = .i .u32 (167772160 + x : Nat) ∧ x ≤ 13) := by
  refine contract_of Tryz.func12 rfl (by kernel_rfl) ?_
  simp only [Tryz.ntmps12, argEnv, ptr]
  (repeat refine Sat.seq ?_)
  (refine Sat.region_k fun k hk => ?_; simp -implicitDefEqProofs only [evr, id, seval, ptr]; refine hk _ ?_; clear hk k; try show Sat _ _ _ _ _)
  (repeat refine Sat.seq ?_)
  (refine Sat.region_k fun k hk => ?_; simp -implicitDefEqProofs only [evr, id, seval, ptr])
  intro blk
  refine wcall_plain (pickI cb blk [1, 2, 5, 6, 9, 10, 12, 13] (fun x => 0 ≤ x ∧ x ≤ 13) (by decide) (by decide) (by decide)) (by simp -implicitDefEqProofs only [evr, id, seval, ptr]) plain_pick ?_
  rintro r ⟨x, rfl, h0, h1⟩
  simp -implicitDefEqProofs only [evr, id, seval, ptr, w32p h0 h1]
  (refine hk _ ?_; clear hk k; try show Sat _ _ _ _ _)
  refine Sat.ret ?_
  simp only [Tryz.results12, evr, id, seval, ptr]
  exact ⟨x.toNat, rfl, by omega⟩
end Go.Proofs.YtepkbbmjbbnhnaaGreatDoor

/- dice.Entry, by the evaluator. -/
set_option linter.unusedSimpArgs false
set_option linter.unusedVariables false
namespace Go.Proofs.YtepkbbmjbbnhnaaGreatDoor
open Go.Sort Eng
def adN (x m : Nat) : Nat := (167772160 + x) / 2 ^ (32 - m) * 2 ^ (32 - m)
theorem adN_lt (x m : Nat) (hx : x ≤ 13) : adN x m < 2 ^ 32 := Nat.lt_of_le_of_lt (Nat.div_mul_le_self _ _) (by omega)
theorem adN_eq {x m : Nat} (hx : x ≤ 13) (hm : m ≤ 32) : IntKind.u32.wrap (((167772160 + x : Nat) : Int).fdiv (2 ^ min (IntKind.i64.wrap (32 - (m : Int))).toNat IntKind.u32.bits) * 2 ^ min (IntKind.i64.wrap (32 - (m : Int))).toNat IntKind.u32.bits) = (adN x m : Int) := by
  have e1 : (IntKind.i64.wrap (32 - (m : Int))).toNat = 32 - m := by rw [w64 (by omega)]; omega
  have e2 : min (32 - m) IntKind.u32.bits = 32 - m := by show min (32 - m) 32 = _; omega
  have e3 : (2 : Int) ^ (32 - m) = ((2 ^ (32 - m) : Nat) : Int) := by simp
  rw [e1, e2, e3, Int.fdiv_eq_ediv_of_nonneg _ (Int.natCast_nonneg _), ← Int.natCast_ediv, ← Int.natCast_mul, IntKind.wrap_u32]
  have := adN_lt x m hx
  unfold adN at this ⊢
  omega
def DrEnt (e : Ent) : Prop := (∃ x m : Nat, x ≤ 13 ∧ 8 ≤ m ∧ m ≤ 32 ∧ e.addr = adN x m ∧ e.len = m) ∧ 1 ≤ e.prov ∧ e.prov ≤ 4 ∧ 0 ≤ e.from_ ∧ e.from_ ≤ 300
theorem DrEnt.ok {e : Ent} (h : DrEnt e) {u : Int} (h1 : e.from_ < u) (h2 : u ≤ 1125899906842624) : EntOk ⟨e.addr, e.len, e.prov, e.from_, u⟩ ∧ eOk ⟨e.addr, e.len, e.prov, e.from_, u⟩ := by
  obtain ⟨⟨x, m, hx, h8, h32, ha, hl⟩, g1, g2, g3, g4⟩ := h
  refine ⟨⟨?_, g1, by show e.prov ≤ _; omega, g3, h1, h2⟩, by show e.addr < _; rw [ha]; exact adN_lt x m hx⟩
  rw [vld_iff]
  refine ⟨by show 0 ≤ e.len; omega, by show e.len ≤ 32; omega, ?_⟩
  show e.addr % 2 ^ (Prf.k ⟨e.addr, e.len⟩) = 0
  have : Prf.k ⟨e.addr, e.len⟩ = 32 - m := by unfold Prf.k; simp only [hl]; omega
  rw [this, ha]
  unfold adN
  exact Nat.mul_mod_left _ _
set_option maxRecDepth 100000 in
theorem diceEntryC (cb : Nat) : Contract (Frm.codes cb) Tryz.prog 22 [ptr cb] (fun r => ∃ e : Ent, r = entS e ∧ EntOk e ∧ eOk e) := by
  refine contract_of Tryz.func22 rfl (by kernel_rfl) ?_
  simp only [Tryz.ntmps22, argEnv, ptr]
  (repeat refine Sat.seq ?_)
  (refine Sat.region_k fun k hk => ?_; simp -implicitDefEqProofs only [evr, id, seval, ptr, evn])
  intro b2
  (refine hk _ ?_; clear hk k; try show Sat _ _ _ _ _)
  (repeat refine Sat.seq ?_)
  (refine Sat.region_k fun k hk => ?_; simp -implicitDefEqProofs only [evr, id, seval, ptr, evn])
  intro blk
  refine wcall_plain (pickI cb blk [8, 24, 28, 29, 30, 30, 31, 32] (fun x => 8 ≤ x ∧ x ≤ 32) (by decide) (by decide) (by decide)) (by simp -implicitDefEqProofs only [evr, id, seval, ptr, evn]) plain_pick ?_
  rintro r ⟨n, rfl, hn0, hn1⟩
  obtain ⟨m, rfl⟩ := Int.eq_ofNat_of_zero_le (show 0 ≤ n by omega)
  simp -implicitDefEqProofs only [evr, id, seval, ptr, evn]
  (refine hk _ ?_; clear hk k; try show Sat _ _ _ _ _)
  (repeat refine Sat.seq ?_)
  (refine Sat.region_k fun k hk => ?_; simp -implicitDefEqProofs only [evr, id, seval, ptr, evn])
  refine wcall_plain (addressC cb) (by simp -implicitDefEqProofs only [evr, id, seval, ptr, evn]) (by rintro _ ⟨x, rfl, _⟩; exact ok_plain rfl) ?_
  rintro r ⟨x, rfl, hx⟩
  simp -implicitDefEqProofs only [evr, id, seval, ptr, evn]
  (refine hk _ ?_; clear hk k; try show Sat _ _ _ _ _)
  (repeat refine Sat.seq ?_)
  have e1 := adN_eq hx (show m ≤ 32 by omega)
  have e2 : 0 ≤ IntKind.i64.wrap (32 - (m : Int)) := by rw [w64 (by omega)]; omega
  refine Sat.join2 (ι := Bool × Nat × Ent) (fun z => ⟨38, [(5, .op (if z.1 then 2 else 3) z.2.1 0), (2, .op 0 b2 0), (0, .v (.pointer (some ⟨cb, 0, none⟩)))], [.box b2 31 [.i .u32 0, .i .i64 0, .i .i64 0, .i .i64 0, .i .i64 0], .gone,
    if z.1 then .box z.2.1 31 [.i .u32 z.2.2.addr, .i .i64 z.2.2.len, .i .i64 z.2.2.prov, .i .i64 z.2.2.from_, .i .i64 0] else .gone, if z.1 then .gone else .box z.2.1 31 [.i .u32 z.2.2.addr, .i .i64 z.2.2.len, .i .i64 z.2.2.prov, .i .i64 z.2.2.from_, .i .i64 0]]⟩) (fun z => DrEnt z.2.2) (fun hrest => ?_) ?_
  · (refine Sat.region_tree (.keep [0, 1, 2, 3, 4, 5, 6, 7, 8, 9, 12] [] (.alt 10 (.free 11 (.alt 13 (.alt 14 (.free 15 (.one 16 (.one 17 .done))) (.alt 16 (.one 14 (.one 15 (.one 17 .done))) .none)) (.alt 16 (.one 13 (.one 14 (.one 15 (.one 17 .done)))) .none))) (.alt 13 (.alt 10 (.free 11 (.alt 14 (.free 15 (.one 16 (.one 17 .done))) (.alt 16 (.one 14 (.one 15 (.one 17 .done))) .none))) (.alt 16 (.one 10 (.free 11 (.one 14 (.one 15 (.one 17 .done))))) .none)) (.alt 16 (.alt 10 (.free 11 (.one 13 (.one 14 (.one 15 (.one 17 .done))))) (.alt 13 (.one 10 (.free 11 (.one 14 (.one 15 (.one 17 .done))))) .none)) .none)))) (by kernel_rfl) (by kernel_rfl) (fun _ _ h => h) fun k hk => ?_; simp only [WOT, List.map_cons, List.map_nil, List.getD_cons_zero, List.getD_cons_succ]; simp -implicitDefEqProofs only [evr, id, seval, ptr, WOT, evn])
    simp only [e1]
    refine ⟨e2, e2, ?_⟩
    have hD : ∀ p q : Int, 0 ≤ p → p < 4 → 0 ≤ q → q ≤ 300 → DrEnt ⟨adN x m, m, 1 + p, q, 0⟩ := fun p q h1 h2 h3 h4 => ⟨⟨x, m, hx, by omega, by omega, rfl, rfl⟩, by show 1 ≤ 1 + p; omega, by show 1 + p ≤ 4; omega, h3, h4⟩
    repeat' (first
      | (with_reducible refine And.intro ?_ ?_)
      | (with_reducible intro)
      | (refine wcall_plain (nextC cb 4 (by omega) (by omega)) rfl (by rintro _ ⟨x, rfl, _⟩; exact ok_plain rfl) ?_
         rintro r ⟨p, rfl, hp0, hp1⟩
         have e4 : IntKind.i64.wrap (1 + p) = 1 + p := w64 (by omega)
         simp -implicitDefEqProofs only [evr, id, seval, ptr, e4, evn])
      | (rename_i c1
         refine wcall_plain (pickI cb c1 [0, 0, 0, 50, 300] (fun x => 0 ≤ x ∧ x ≤ 300) (by decide) (by decide) (by decide)) ?_ plain_pick ?_
         focus
          simp -implicitDefEqProofs only [evr, id, seval, ptr, evn]
          done
         rintro r ⟨q, rfl, hq0, hq1⟩
         simp -implicitDefEqProofs only [evr, id, seval, ptr, evn])
      | (rename_i c1 c2
         refine wcall_plain (pickI cb c1 [0, 0, 0, 50, 300] (fun x => 0 ≤ x ∧ x ≤ 300) (by decide) (by decide) (by decide)) ?_ plain_pick ?_
         focus
          simp -implicitDefEqProofs only [evr, id, seval, ptr, evn]
          done
         rintro r ⟨q, rfl, hq0, hq1⟩
         simp -implicitDefEqProofs only [evr, id, seval, ptr, evn]))
    repeat' (first
      | (refine hk _ ?_
         simp only [thenK]
         first
         | (refine (hrest (true, c1, ⟨adN x m, m, 1 + p, q, 0⟩) (hD p q hp0 (by omega) hq0 hq1)).le ?_
            simp only [if_true, if_false, Bool.false_eq_true]
            simp -implicitDefEqProofs only [evr, id, seval, ptr, evl, evn]
            done)
         | (refine (hrest (true, c2, ⟨adN x m, m, 1 + p, q, 0⟩) (hD p q hp0 (by omega) hq0 hq1)).le ?_
            simp only [if_true, if_false, Bool.false_eq_true]
            simp -implicitDefEqProofs only [evr, id, seval, ptr, evl, evn]
            done)
         | (refine (hrest (false, c1, ⟨adN x m, m, 1 + p, q, 0⟩) (hD p q hp0 (by omega) hq0 hq1)).le ?_
            simp only [if_true, if_false, Bool.false_eq_true]
            simp -implicitDefEqProofs only [evr, id, seval, ptr, evl, evn]
            done)
         | (refine (hrest (false, c2, ⟨adN x m, m, 1 + p, q, 0⟩) (hD p q hp0 (by omega) hq0 hq1)).le ?_
            simp only [if_true, if_false, Bool.false_eq_true]
            simp -implicitDefEqProofs only [evr, id, seval, ptr, evl, evn]
            done))
      | (rename_i c2
         refine hk _ ?_
         simp only [thenK]
         first
         | (refine (hrest (true, c1, ⟨adN x m, m, 1 + p, q, 0⟩) (hD p q hp0 (by omega) hq0 hq1)).le ?_
            simp only [if_true, if_false, Bool.false_eq_true]
            simp -implicitDefEqProofs only [evr, id, seval, ptr, evl, evn]
            done)
         | (refine (hrest (true, c2, ⟨adN x m, m, 1 + p, q, 0⟩) (hD p q hp0 (by omega) hq0 hq1)).le ?_
            simp only [if_true, if_false, Bool.false_eq_true]
            simp -implicitDefEqProofs only [evr, id, seval, ptr, evl, evn]
            done)
         | (refine (hrest (false, c1, ⟨adN x m, m, 1 + p, q, 0⟩) (hD p q hp0 (by omega) hq0 hq1)).le ?_
            simp only [if_true, if_false, Bool.false_eq_true]
            simp -implicitDefEqProofs only [evr, id, seval, ptr, evl, evn]
            done)
         | (refine (hrest (false, c2, ⟨adN x m, m, 1 + p, q, 0⟩) (hD p q hp0 (by omega) hq0 hq1)).le ?_
            simp only [if_true, if_false, Bool.false_eq_true]
            simp -implicitDefEqProofs only [evr, id, seval, ptr, evl, evn]
            done)))
  · rintro ⟨b, b5, e⟩ hD
    simp only at hD ⊢
    have h1 := hD.2.2.2.1
    have h2 := hD.2.2.2.2
    have e5 : IntKind.i64.wrap (e.from_ + 1) = e.from_ + 1 := w64 (by omega)
    cases b
    all_goals
      simp only [if_true, if_false, Bool.false_eq_true, Ent.cs]
      (repeat refine Sat.seq ?_)
      (refine Sat.region_rows [⟨0, 28, 1, 0⟩, ⟨0, 29, 32, 0⟩, ⟨2, 30, 268435456, 1⟩, ⟨4, 31, 536870912, 0⟩, ⟨0, 32, 1, 0⟩, ⟨16, 33, 2147483648, 2⟩, ⟨40, 34, 5368709120, 0⟩, ⟨64, 35, 8589934592, 2⟩, ⟨161, 36, 17314086912, 2⟩, ⟨511, 37, 32, 0⟩, ⟨1023, 0, 103079215104, 2⟩] [0, 1, 4, 2, 3] [(5, false), (6, false), (7, false), (8, false), (9, false), (10, false)] [5] (by kernel_rfl) (by kernel_rfl) (fun _ _ h => h) fun k hk => ?_; simp only [List.map_cons, List.map_nil, List.getD_cons_zero, List.getD_cons_succ, btseq_cons, btseq_free, btseq_nil]; simp -implicitDefEqProofs only [evr, id, seval, ptr, evn])
      simp only [e5]
      refine wcall_plain (nextC cb 600 (by omega) (by omega)) rfl (by rintro _ ⟨x, rfl, _⟩; exact ok_plain rfl) ?_
      rintro r ⟨u, rfl, hu0, hu1⟩
      have e6 : IntKind.i64.wrap (e.from_ + 1 + u) = e.from_ + 1 + u := w64 (by omega)
      simp -implicitDefEqProofs only [evr, id, seval, ptr, e6, evn]
      intro c1
      refine wcall_plain (pickI cb c1 [1125899906842624, 1125899906842624, 1125899906842624, e.from_ + 1 + u] (fun x => e.from_ < x ∧ x ≤ 1125899906842624) (by simp) (by simp) (fun x hx => by simp at hx; omega)) (by simp -implicitDefEqProofs only [evr, id, seval, ptr, evn]) plain_pick ?_
      rintro r ⟨v, rfl, hv0, hv1⟩
      simp -implicitDefEqProofs only [evr, id, seval, ptr, evn]
      (refine hk _ ?_; clear hk k; try show Sat _ _ _ _ _)
      (repeat refine Sat.seq ?_)
      (refine Sat.region_k fun k hk => ?_; simp -implicitDefEqProofs only [evr, id, seval, ptr, evn]; refine hk _ ?_; clear hk k; try show Sat _ _ _ _ _)
      refine Sat.ret ?_
      simp only [Tryz.results22, evr, id, seval, ptr, List.append_nil, Int.toNat_zero, Nat.sub_self]
      exact ⟨⟨e.addr, e.len, e.prov, e.from_, v⟩, rfl, hD.ok hv0 hv1⟩
end Go.Proofs.YtepkbbmjbbnhnaaGreatDoor

/- dice.Registry, by the evaluator. -/
set_option linter.unusedSimpArgs false
set_option linter.unusedVariables false
namespace Go.Proofs.YtepkbbmjbbnhnaaGreatDoor
open Go.Sort Eng
theorem adL_ex {es : List Ent} {e : Ent} (hr : RegOk es) (he : EntOk e) (hno : ∀ x ∈ es, ¬ overlap x e) : ∀ i, i ≤ es.length → ∃ k, AdL es e i k
  | 0, _ => ⟨0, Nat.zero_le _, Nat.le_refl _, fun j hj => absurd hj (Nat.not_lt_zero _), fun j hj => absurd hj (Nat.not_lt_zero _), fun j _ hj => absurd hj (Nat.not_lt_zero _)⟩
  | i + 1, hi => by
    obtain ⟨k, hk⟩ := adL_ex hr he hno i (by omega)
    have hn : ¬ overlap (es.getD i default) e := by rw [getD_lt (by omega)]; exact hno _ (List.getElem_mem _)
    by_cases h : cmpE (es.getD i default) e < 0
    · exact ⟨i + 1, hk.less hr he (by omega) hn h⟩
    · exact ⟨k, hk.more hr he (by omega) hn h⟩
theorem addV_place {es : List Ent} {e : Ent} (hr : RegOk es) (he : EntOk e) (hno : ∀ x ∈ es, ¬ overlap x e) : Place es e.fk (plcN es e.fk) := by
  obtain ⟨k, hk⟩ := adL_ex hr he hno es.length (Nat.le_refl _)
  obtain ⟨_, h2⟩ := hk.done
  rw [← h2]
  obtain ⟨g1, g2, g3, g4, g5⟩ := hk
  exact ⟨g2, g4, fun j hj hj2 => g5 j hj hj2⟩
theorem addV_ok {es : List Ent} {e : Ent} (h : (addV es e).2 = 0) : RegOk es ∧ EntOk e ∧ (∀ x ∈ es, ¬ overlap x e) ∧ Place es e.fk (plcN es e.fk) ∧ (addV es e).1 = insE es (plcN es e.fk) e ∧ RegOk (addV es e).1 ∧ (addV es e).1.length = es.length + 1 := by
  unfold addV at h ⊢
  split at h
  · cases h
  · rename_i h1
    split at h
    · cases h
    · rename_i h2
      split at h
      · cases h
      · rename_i h3
        rw [not_or, Decidable.not_not, Decidable.not_not] at h1
        have hno : ∀ x ∈ es, ¬ overlap x e := fun x hx ho => h2 ⟨x, hx, ho⟩
        have hp := addV_place h1.1 h1.2 hno
        rw [if_neg (fun h9 => h9.elim (fun h9 => h9 h1.1) (fun h9 => h9 h1.2)), if_neg h2, if_neg h3]
        exact ⟨h1.1, h1.2, hno, hp, rfl, insE_ok h1.1 h1.2 hp hno (by omega), insE_len hp.1⟩
theorem esOk_ins {es : List Ent} {e : Ent} {i : Nat} (h : esOk es) (he : eOk e) : esOk (insE es i e) := fun x hx => by
  rcases insE_mem.1 hx with hx | rfl
  · exact h x hx
  · exact he
theorem regOk_nil : RegOk [] := ⟨by simp, fun i hi => absurd hi (Nat.not_lt_zero _)⟩
set_option maxRecDepth 100000 in
theorem diceRegistryC (cb : Nat) (most : Nat) (hm : most ≤ 100) : Contract (Frm.codes cb) Tryz.prog 8 [ptr cb, .i .i64 most] (fun r => ∃ a c es, r = regS a c es ∧ RegOk es ∧ esOk es ∧ es.length ≤ most) := by
  have e0 : IntKind.i64.wrap ((most : Int) + 1) = (most : Int) + 1 := w64 (by omega)
  refine contract_of Tryz.func8 rfl (by kernel_rfl) ?_
  simp only [Tryz.ntmps8, argEnv, ptr]
  (repeat refine Sat.seq ?_)
  (refine Sat.region_k fun k hk => ?_; simp -implicitDefEqProofs only [evr, id, seval, Nat.sub_zero, Option.map_none, ent0, ent1, ent2, ent3, ent4, regS, entS, Ent.cs, tupL, ptr, evn])
  intro b4
  (refine hk _ ?_; clear hk k; try show Sat _ _ _ _ _)
  (repeat refine Sat.seq ?_)
  (refine Sat.region_k fun k hk => ?_; simp -implicitDefEqProofs only [evr, id, seval, Nat.sub_zero, Option.map_none, ent0, ent1, ent2, ent3, ent4, regS, entS, Ent.cs, tupL, ptr, evn])
  intro b5
  (refine hk _ ?_; clear hk k; try show Sat _ _ _ _ _)
  (repeat refine Sat.seq ?_)
  (refine Sat.region_k fun k hk => ?_; simp -implicitDefEqProofs only [evr, id, seval, Nat.sub_zero, Option.map_none, ent0, ent1, ent2, ent3, ent4, regS, entS, Ent.cs, tupL, ptr, evn])
  simp only [e0]
  refine wcall_plain (nextC cb ((most : Int) + 1) (by omega) (by omega)) rfl (by rintro _ ⟨x, rfl, _⟩; exact ok_plain rfl) ?_
  rintro r ⟨x, rfl, hx0, hx1⟩
  obtain ⟨n, rfl⟩ := Int.eq_ofNat_of_zero_le hx0
  simp -implicitDefEqProofs only [evr, id, seval, Nat.sub_zero, Option.map_none, ent0, ent1, ent2, ent3, ent4, regS, entS, Ent.cs, tupL, ptr, evn]
  (refine hk _ ?_; clear hk k; try show Sat _ _ _ _ _)
  refine Sat.simBox 1 [.sl none 0 0 5 (entRd [])] rfl ⟨sim_nil _ _ _ _, trivial⟩ ?_
  simp -implicitDefEqProofs only [evr, id, seval, Nat.sub_zero, Option.map_none, ent0, ent1, ent2, ent3, ent4, regS, entS, Ent.cs, tupL, ptr, evn]
  (repeat refine Sat.seq ?_)
  refine Sat.block ?_
  refine Sat.loop (ι := Nat × Option Addr × Nat × List Ent) (fun x => ⟨28, [(6, .i .i64 x.1), (0, .v (.pointer (some ⟨cb, 0, none⟩))), (4, .op 0 b4 0), (5, .op 1 b5 0)], [.box b4 25 [.sl none 0 0 0 fun _ _ => .v undef], .box b5 25 [.sl x.2.1 x.2.2.2.length x.2.2.1 5 (entRd x.2.2.2)]]⟩)
    (fun x => x.1 + x.2.2.2.length ≤ most ∧ RegOk x.2.2.2 ∧ esOk x.2.2.2) (fun x => x.1) (n, none, 0, []) ⟨by simp only [List.length_nil]; omega, regOk_nil, fun e he => by cases he⟩ (by simp -implicitDefEqProofs only [evr, id, seval, Nat.sub_zero, Option.map_none, ent0, ent1, ent2, ent3, ent4, regS, entS, Ent.cs, tupL, ptr, evl, evn]; done) ?_
  rintro ⟨i, a, c, es⟩ ⟨hi, hr, ho⟩
  simp only at hi hr ho ⊢
  (repeat refine Sat.seq ?_)
  (refine Sat.region_k fun k hk => ?_; simp -implicitDefEqProofs only [evr, id, seval, Nat.sub_zero, Option.map_none, ent0, ent1, ent2, ent3, ent4, regS, entS, Ent.cs, tupL, ptr, evn]; refine hk _ ?_; clear hk k; try show Sat _ _ _ _ _)
  (repeat refine Sat.seq ?_)
  refine Sat.cond_b rfl (fun h2 => ?_) (fun h2 => ?_)
  · simp only [decide_eq_true_eq] at h2
    have hlt : 0 < i := by omega
    have e1 : IntKind.i64.wrap ((i : Int) - 1) = ((i - 1 : Nat) : Int) := by rw [w64 (by omega)]; omega
    refine Sat.skip ?_
    simp only [thenK]
    (repeat refine Sat.seq ?_)
    refine Sat.block ?_
    (repeat refine Sat.seq ?_)
    refine Sat.join2 (ι := Nat × Option Addr × Nat × Ent) (fun z => ⟨28, [(8, .i .i64 (addV es z.2.2.2).2), (7, .op 2 z.1 0), (6, .i .i64 i), (0, .v (.pointer (some ⟨cb, 0, none⟩))), (4, .op 0 b4 0), (5, .op 1 b5 0)], [.box b4 25 [.sl none 0 0 0 fun _ _ => .v undef], .box b5 25 [.sl a es.length c 5 (entRd es)], .box z.1 25 [.sl z.2.1 (addV es z.2.2.2).1.length z.2.2.1 5 (entRd (addV es z.2.2.2).1)]]⟩) (fun z => EntOk z.2.2.2 ∧ eOk z.2.2.2) (fun hrest => ?_) ?_
    · (refine Sat.region_tree (.keep [1, 0] [2, 7] (.alt 2 (.alt 3 (.free 4 (.free 5 (.free 6 (.one 7 (.one 8 (.one 9 .done)))))) (.alt 7 (.one 3 (.one 4 (.free 5 (.free 6 (.one 8 (.one 9 .done)))))) .none)) (.alt 7 (.one 2 (.one 3 (.one 4 (.free 5 (.free 6 (.one 8 (.one 9 .done))))))) .none))) (by kernel_rfl) (by kernel_rfl) (fun _ _ h => h) fun k hk => ?_; simp only [WOT, List.map_cons, List.map_nil, List.getD_cons_zero, List.getD_cons_succ]; simp -implicitDefEqProofs only [evr, id, seval, Nat.sub_zero, Option.map_none, ent0, ent1, ent2, ent3, ent4, regS, entS, Ent.cs, tupL, ptr, WOT, evn])
      repeat' (first
        | (with_reducible refine And.intro ?_ ?_)
        | omega
        | (with_reducible intro b7)
        | (with_reducible rfl)
        | (refine wcall_plain (diceEntryC cb) ?_ (by rintro _ ⟨e, rfl, _⟩; exact entS_ok e) ?_
           focus
            simp -implicitDefEqProofs only [evr, id, seval, Nat.sub_zero, Option.map_none, ent0, ent1, ent2, ent3, ent4, regS, entS, Ent.cs, tupL, ptr, evn]
            done
           rintro r ⟨e, rfl, heo, hee⟩
           simp -implicitDefEqProofs only [evr, id, seval, Nat.sub_zero, Option.map_none, ent0, ent1, ent2, ent3, ent4, regS, entS, Ent.cs, tupL, ptr, evn])
        | (refine wcall_slice (refAddC (Frm.codes cb) a c es ho (by omega) e hee) (by simp -implicitDefEqProofs only [evr, id, seval, Nat.sub_zero, Option.map_none, ent0, ent1, ent2, ent3, ent4, regS, entS, Ent.cs, tupL, ptr, evn]; rfl) (by simp -implicitDefEqProofs only [evr, id, seval, Nat.sub_zero, Option.map_none, ent0, ent1, ent2, ent3, ent4, regS, entS, Ent.cs, tupL, ptr, evn]) ?_
           rintro r ⟨a1, c1, rfl⟩
           simp -implicitDefEqProofs only [evr, id, seval, Nat.sub_zero, Option.map_none, ent0, ent1, ent2, ent3, ent4, regS, entS, Ent.cs, tupL, ptr, evn])
        | (refine hk _ ?_
           simp only [thenK]
           refine (hrest (b7, a1, c1, e) ⟨heo, hee⟩).le ?_
           simp -implicitDefEqProofs only [evr, id, seval, Nat.sub_zero, Option.map_none, ent0, ent1, ent2, ent3, ent4, regS, entS, Ent.cs, tupL, ptr, evl, evn]
           done))
    rintro ⟨b7, a1, c1, e⟩ ⟨heo, hee⟩
    simp only at heo hee ⊢
    have hok := @addV_ok es e
    generalize hes : (addV es e).1 = es1 at *
    generalize hcd : (addV es e).2 = cd at *
    (repeat refine Sat.seq ?_)
    (refine Sat.region_k fun k hk => ?_; simp -implicitDefEqProofs only [evr, id, seval, Nat.sub_zero, Option.map_none, ent0, ent1, ent2, ent3, ent4, regS, entS, Ent.cs, tupL, ptr, evn]; refine hk _ ?_; clear hk k; try show Sat _ _ _ _ _)
    (repeat refine Sat.seq ?_)
    refine Sat.cond_b rfl (fun h3 => ?_) (fun h3 => ?_)
    · simp only [beq_iff_eq] at h3
      obtain ⟨_, _, _, _, g5, g6, g7⟩ := hok h3
      refine Sat.region_k fun k hk => ?_
      simp -implicitDefEqProofs only [evr, id, seval, Nat.sub_zero, Option.map_none, ent0, ent1, ent2, ent3, ent4, regS, entS, Ent.cs, tupL, ptr, evn]
      refine hk _ ?_
      simp only [thenK, blockK]
      refine Sat.region_k fun k hk => ?_
      simp -implicitDefEqProofs only [evr, id, seval, Nat.sub_zero, Option.map_none, ent0, ent1, ent2, ent3, ent4, regS, entS, Ent.cs, tupL, ptr, e1, evn]
      refine hk _ ?_
      simp only [thenK, blockK]
      refine ⟨(i - 1, a1, c1, es1), ⟨by simp only; omega, g6, by rw [g5]; exact esOk_ins ho hee⟩, by simp only; omega, ?_⟩
      simp -implicitDefEqProofs only [evr, id, seval, Nat.sub_zero, Option.map_none, ent0, ent1, ent2, ent3, ent4, regS, entS, Ent.cs, tupL, ptr, evl, evn]
    · refine Sat.skip ?_
      simp only [thenK, blockK]
      refine Sat.region_k fun k hk => ?_
      simp -implicitDefEqProofs only [evr, id, seval, Nat.sub_zero, Option.map_none, ent0, ent1, ent2, ent3, ent4, regS, entS, Ent.cs, tupL, ptr, e1, evn]
      refine hk _ ?_
      simp only [thenK, blockK]
      refine ⟨(i - 1, a, c, es), ⟨by simp only; omega, hr, ho⟩, by simp only; omega, ?_⟩
      simp -implicitDefEqProofs only [evr, id, seval, Nat.sub_zero, Option.map_none, ent0, ent1, ent2, ent3, ent4, regS, entS, Ent.cs, tupL, ptr, evl, evn]
  · refine Sat.exit ?_
    simp only [thenK, blockK, reduceIte]
    (repeat refine Sat.seq ?_)
    (refine Sat.region_k fun k hk => ?_; simp -implicitDefEqProofs only [evr, id, seval, Nat.sub_zero, Option.map_none, ent0, ent1, ent2, ent3, ent4, regS, entS, Ent.cs, tupL, ptr, evn]; refine hk _ ?_; clear hk k; try show Sat _ _ _ _ _)
    refine Sat.ret ?_
    simp only [Tryz.results8, evr, id, seval, List.append_nil, Int.toNat_zero, Nat.sub_self, Nat.sub_zero, Option.map_none, ent0, ent1, ent2, ent3, ent4, regS, entS, Ent.cs, tupL, ptr]
    exact ⟨a, c, es, rfl, hr, ho, by omega⟩
end Go.Proofs.YtepkbbmjbbnhnaaGreatDoor

/- dice.OddRegistry, by the evaluator. -/
set_option linter.unusedSimpArgs false
set_option linter.unusedVariables false
namespace Go.Proofs.YtepkbbmjbbnhnaaGreatDoor
open Go.Sort Eng
def Ent.upd (e : Ent) (j : Nat) (v : Int) : Ent := if j = 1 then { e with len := v } else if j = 2 then { e with prov := v } else if j = 3 then { e with from_ := v } else { e with to_ := v }
theorem upd_rd {es : List Ent} {i : Nat} (hi : i < es.length) (j : Nat) (h1 : 1 ≤ j) (h4 : j ≤ 4) (v : Int) : rdEq es.length 5 (rdSet (entRd es) i j [.i .i64 v]) (entRd (es.set i ((es.getD i default).upd j v))) := by
  intro p q hp hq
  unfold rdSet entRd
  simp only [List.length_cons, List.length_nil]
  by_cases e : p = i
  · subst e
    have e1 : (es.set p ((es.getD p default).upd j v)).getD p default = (es.getD p default).upd j v := by
      simp [List.getD, List.getElem?_set, hi]
    rw [e1]
    rcases (show j = 1 ∨ j = 2 ∨ j = 3 ∨ j = 4 by omega) with rfl | rfl | rfl | rfl <;> rcases (show q = 0 ∨ q = 1 ∨ q = 2 ∨ q = 3 ∨ q = 4 by omega) with rfl | rfl | rfl | rfl | rfl <;> simp [Ent.cs, Ent.upd]
  · have e1 : (es.set i ((es.getD i default).upd j v)).getD p default = es.getD p default := by
      simp [List.getD, List.getElem?_set, Ne.symm e]
    rw [e1]
    simp [e]
theorem upd_ok {e : Ent} (h : eOk e) (j : Nat) (v : Int) : eOk (e.upd j v) := by
  unfold Ent.upd eOk at *
  split
  · exact h
  · split
    · exact h
    · split <;> exact h
theorem set_ok {es : List Ent} (h : esOk es) {e : Ent} (he : eOk e) (i : Nat) : esOk (es.set i e) := fun x hx => by
  rcases List.mem_or_eq_of_mem_set hx with hx | rfl
  · exact h x hx
  · exact he
theorem swap_rd {es : List Ent} {i : Nat} (hi : i < es.length) : rdEq es.length 5 (rdSet (rdSet (entRd es) i 0 (Ent.cs (es.getD 0 default))) 0 0 (Ent.cs (es.getD i default))) (entRd ((es.set i (es.getD 0 default)).set 0 (es.getD i default))) := by
  intro p q hp hq
  have hc : ∀ e : Ent, (Ent.cs e).length = 5 := fun _ => rfl
  have g : ∀ p, p < es.length → ((es.set i (es.getD 0 default)).set 0 (es.getD i default)).getD p default = if p = 0 then es.getD i default else if p = i then es.getD 0 default else es.getD p default := fun p hp => by
    by_cases h0 : p = 0
    · subst h0
      rw [if_pos rfl]
      simp only [List.getD, List.getElem?_set, List.length_set]
      simp [hp]
    · rw [if_neg h0]
      by_cases h1 : p = i
      · subst h1
        rw [if_pos rfl]
        simp only [List.getD, List.getElem?_set, List.length_set]
        simp [hi, Ne.symm h0]
      · rw [if_neg h1]
        simp only [List.getD, List.getElem?_set, List.length_set]
        simp [Ne.symm h0, Ne.symm h1]
  show _ = (Ent.cs _).getD q default
  rw [g p hp]
  unfold rdSet entRd
  by_cases h0 : p = 0
  · rw [if_pos ⟨h0, Nat.zero_le _, by rw [hc]; omega⟩, if_pos h0, Nat.sub_zero]
  · rw [if_neg (fun h => h0 h.1), if_neg h0]
    by_cases h1 : p = i
    · rw [if_pos ⟨h1, Nat.zero_le _, by rw [hc]; omega⟩, if_pos h1, Nat.sub_zero]
    · rw [if_neg (fun h => h1 h.1), if_neg h1]
theorem app_rd (es : List Ent) (rd : Nat → Nat → SV) (hrd : ∀ p q, p < es.length → q < 5 → rd p q = entRd es p q) (e : Ent) (rd2 : Nat → Nat → SV) (h2 : ∀ q, q < 5 → rd2 0 q = (Ent.cs e).getD q default) : rdEq (es.length + 1) 5 (rdCat es.length rd rd2) (entRd (es ++ [e])) := by
  intro p q hp hq
  unfold rdCat
  split
  · rename_i h
    rw [hrd p q h hq]
    unfold entRd
    simp [List.getD, List.getElem?_append, h]
  · rename_i h
    obtain rfl : p = es.length := by omega
    rw [Nat.sub_self, h2 q hq]
    unfold entRd
    simp [List.getD, List.getElem?_append]
set_option maxRecDepth 100000 in
theorem oddRegistryC (cb : Nat) (ad : Option Addr) (cap : Nat) (es : List Ent) (h : esOk es) (hn : es.length ≤ 900) : Contract (Frm.codes cb) Tryz.prog 9 [ptr cb, regS ad cap es] (fun r => ∃ a c fs, r = regS a c fs ∧ esOk fs ∧ fs.length ≤ es.length + 1) := by
  refine Contract.same (post := fun r => ∃ a c fs n rd, n = fs.length ∧ rdEq n 5 rd (entRd fs) ∧ r = (.agg 1 fun j => [SV.sl a n c 5 rd].getD j default) ∧ esOk fs ∧ fs.length ≤ es.length + 1) ?_ (by
    rintro r ⟨a, c, fs, n, rd, rfl, h1, rfl, h2, h3⟩
    exact ⟨regS a c fs, sim_agg1 (f := fun j => [SV.sl a fs.length c 5 rd].getD j default) (g := fun j => [SV.sl a fs.length c 5 (entRd fs)].getD j default) (by show sim (SV.sl a fs.length c 5 rd) (SV.sl a fs.length c 5 (entRd fs)); exact sim_sl fun p j hi hj => h1 p j hi hj), a, c, fs, rfl, h2, h3⟩)
  refine contract_of Tryz.func9 rfl (by kernel_rfl) ?_
  simp only [Tryz.ntmps9, argEnv, ptr, regS]
  (repeat refine Sat.seq ?_)
  (refine Sat.region_k fun k hk => ?_; simp -implicitDefEqProofs only [evr, id, seval, Nat.sub_zero, Option.map_none, ent0, ent1, ent2, ent3, ent4, regS, tupL, ptr, evn])
  intro b3 b4
  (refine hk _ ?_; clear hk k; try show Sat _ _ _ _ _)
  (repeat refine Sat.seq ?_)
  (refine Sat.region_k fun k hk => ?_; simp -implicitDefEqProofs only [evr, id, seval, Nat.sub_zero, Option.map_none, ent0, ent1, ent2, ent3, ent4, regS, tupL, ptr, evn])
  refine ⟨⟨by unfold maxLen; omega, by omega⟩, fun a1 c1 => ?_⟩
  (refine hk _ ?_; clear hk k; try show Sat _ _ _ _ _)
  (repeat refine Sat.seq ?_)
  (refine Sat.region_k fun k hk => ?_; simp -implicitDefEqProofs only [evr, id, seval, Nat.sub_zero, Option.map_none, ent0, ent1, ent2, ent3, ent4, regS, tupL, ptr, evn]; refine hk _ ?_; clear hk k; try show Sat _ _ _ _ _)
  (repeat refine Sat.seq ?_)
  refine Sat.cond_b rfl (fun h1 => ?_) (fun h1 => ?_)
  · have h0 : es = [] := List.eq_nil_of_length_eq_zero (by simp only [beq_iff_eq] at h1; omega)
    subst h0
    (repeat refine Sat.seq ?_)
    (refine Sat.region_k fun k hk => ?_; simp -implicitDefEqProofs only [evr, id, seval, Nat.sub_zero, Option.map_none, ent0, ent1, ent2, ent3, ent4, regS, tupL, ptr, evn])
    refine wcall_plain (nextC cb 2 (by decide) (by decide)) rfl (by rintro _ ⟨x, rfl, _⟩; exact ok_plain rfl) ?_
    rintro r ⟨x, rfl, hx0, hx1⟩
    simp -implicitDefEqProofs only [evr, id, seval, Nat.sub_zero, Option.map_none, ent0, ent1, ent2, ent3, ent4, regS, tupL, ptr, evn]
    refine wcall_plain (nextC cb 2 (by decide) (by decide)) rfl (by rintro _ ⟨x, rfl, _⟩; exact ok_plain rfl) ?_
    rintro r ⟨y, rfl, hy0, hy1⟩
    simp -implicitDefEqProofs only [evr, id, seval, Nat.sub_zero, Option.map_none, ent0, ent1, ent2, ent3, ent4, regS, tupL, ptr, evn]
    refine fun bl => ⟨by unfold maxLen; omega, fun a2 c2 => ?_⟩
    (refine hk _ ?_; clear hk k; try show Sat _ _ _ _ _)
    refine Sat.ret ?_
    simp only [Tryz.results9, evr, id, seval, List.append_nil, Int.toNat_zero, Nat.sub_self, Nat.sub_zero, Option.map_none, ent0, ent1, ent2, ent3, ent4, regS, tupL, ptr]
    exact ⟨_, _, [⟨0, 0, x, 0, y⟩], 1, _, rfl, fun p q hp hq => by
      obtain rfl : p = 0 := by omega
      rcases (show q = 0 ∨ q = 1 ∨ q = 2 ∨ q = 3 ∨ q = 4 by omega) with rfl | rfl | rfl | rfl | rfl <;> rfl, rfl, fun e he => by rw [List.mem_singleton.1 he]; exact (by decide : (0 : Nat) < 2 ^ 32), by simp⟩
  · have hlt : 0 < es.length := by
      simp only [beq_eq_false_iff_ne, ne_eq] at h1
      omega
    refine Sat.skip ?_
    simp only [thenK]
    (repeat refine Sat.seq ?_)
    (refine Sat.region_k fun k hk => ?_; simp -implicitDefEqProofs only [evr, id, seval, Nat.sub_zero, Option.map_none, ent0, ent1, ent2, ent3, ent4, regS, tupL, ptr, evn])
    refine wcall_plain (nextC cb es.length (by omega) (by omega)) rfl (by rintro _ ⟨x, rfl, _⟩; exact ok_plain rfl) ?_
    rintro r ⟨x, rfl, hx0, hx1⟩
    obtain ⟨i, rfl⟩ := Int.eq_ofNat_of_zero_le hx0
    have hi : i < es.length := by omega
    simp -implicitDefEqProofs only [evr, id, seval, Nat.sub_zero, Option.map_none, ent0, ent1, ent2, ent3, ent4, regS, tupL, ptr, evn]
    (refine hk _ ?_; clear hk k; try show Sat _ _ _ _ _)
    (repeat refine Sat.seq ?_)
    (refine Sat.region_k fun k hk => ?_; simp -implicitDefEqProofs only [evr, id, seval, Nat.sub_zero, Option.map_none, ent0, ent1, ent2, ent3, ent4, regS, tupL, ptr, evn])
    refine wcall_plain (nextC cb 5 (by decide) (by decide)) rfl (by rintro _ ⟨x, rfl, _⟩; exact ok_plain rfl) ?_
    rintro r ⟨y, rfl, hy0, hy1⟩
    simp -implicitDefEqProofs only [evr, id, seval, Nat.sub_zero, Option.map_none, ent0, ent1, ent2, ent3, ent4, regS, tupL, ptr, evn]
    (refine hk _ ?_; clear hk k; try show Sat _ _ _ _ _)
    (repeat refine Sat.seq ?_)
    refine Sat.join (ι := Option Addr × Nat × List Ent) (fun z => ⟨86, [(5, .os 2 z.1 z.2.2.length z.2.1), (4, .op 1 b4 0)], [.gone, .box b4 25 [.sl none 0 0 0 fun _ _ => .v undef], .row z.1 31 z.2.2.length z.2.1 5 (entRd z.2.2)]⟩) (fun z => esOk z.2.2 ∧ z.2.2.length ≤ es.length + 1) ?_ ?_
    · refine Sat.block ?_
      (repeat refine Sat.seq ?_)
      (refine Sat.region_k fun k hk => ?_; simp -implicitDefEqProofs only [evr, id, seval, Nat.sub_zero, Option.map_none, ent0, ent1, ent2, ent3, ent4, regS, tupL, ptr, evn]; refine hk _ ?_; clear hk k; try show Sat _ _ _ _ _)
      refine Sat.cond_b rfl (fun h2 => ?_) (fun h2 => ?_)
      · (repeat refine Sat.seq ?_)
        (refine Sat.region_k fun k hk => ?_; simp -implicitDefEqProofs only [evr, id, seval, Nat.sub_zero, Option.map_none, ent0, ent1, ent2, ent3, ent4, regS, tupL, ptr, evn])
        intro bl
        refine wcall_plain (pickI cb bl [0, 2147483647, 2147483648] (fun _ => True) (by simp) (by simp) (fun _ _ => trivial)) (by simp -implicitDefEqProofs only [evr, id, seval, Nat.sub_zero, Option.map_none, ent0, ent1, ent2, ent3, ent4, regS, tupL, ptr, evn]) plain_pick ?_
        rintro r ⟨v, rfl, -⟩
        simp -implicitDefEqProofs only [evr, id, seval, Nat.sub_zero, Option.map_none, ent0, ent1, ent2, ent3, ent4, regS, tupL, ptr, evn]
        refine ⟨by omega, by omega, ?_⟩
        (refine hk _ ?_; clear hk k; try show Sat _ _ _ _ _)
        refine ⟨(a1, c1, es.set i ((es.getD i default).upd 2 v)), ⟨set_ok h (upd_ok (esOk_at h i) 2 v) i, by simp⟩, ?_⟩
        simp only [List.length_set]
        simp -implicitDefEqProofs only [evr, id, seval, Nat.sub_zero, Option.map_none, ent0, ent1, ent2, ent3, ent4, regS, tupL, ptr, evl, evn]
        exact upd_rd hi 2 (by decide) (by decide) v
      · (repeat refine Sat.seq ?_)
        (refine Sat.region_k fun k hk => ?_; simp -implicitDefEqProofs only [evr, id, seval, Nat.sub_zero, Option.map_none, ent0, ent1, ent2, ent3, ent4, regS, tupL, ptr, evn]; refine hk _ ?_; clear hk k; try show Sat _ _ _ _ _)
        refine Sat.cond_b rfl (fun h2 => ?_) (fun h2 => ?_)
        · (repeat refine Sat.seq ?_)
          (refine Sat.region_k fun k hk => ?_; simp -implicitDefEqProofs only [evr, id, seval, Nat.sub_zero, Option.map_none, ent0, ent1, ent2, ent3, ent4, regS, tupL, ptr, evn])
          refine ⟨by omega, by omega, fun bl => ?_⟩
          refine wcall_plain (pickI cb bl [(es.getD i default).from_, 1125899906842624, 1125899906842625] (fun _ => True) (by simp) (by simp) (fun _ _ => trivial)) (by simp -implicitDefEqProofs only [evr, id, seval, Nat.sub_zero, Option.map_none, ent0, ent1, ent2, ent3, ent4, regS, tupL, ptr, evn]) plain_pick ?_
          rintro r ⟨v, rfl, -⟩
          simp -implicitDefEqProofs only [evr, id, seval, Nat.sub_zero, Option.map_none, ent0, ent1, ent2, ent3, ent4, regS, tupL, ptr, evn]
          refine ⟨by omega, by omega, ?_⟩
          (refine hk _ ?_; clear hk k; try show Sat _ _ _ _ _)
          refine ⟨(a1, c1, es.set i ((es.getD i default).upd 4 v)), ⟨set_ok h (upd_ok (esOk_at h i) 4 v) i, by simp⟩, ?_⟩
          simp only [List.length_set]
          simp -implicitDefEqProofs only [evr, id, seval, Nat.sub_zero, Option.map_none, ent0, ent1, ent2, ent3, ent4, regS, tupL, ptr, evl, evn]
          exact upd_rd hi 4 (by decide) (by decide) v
        · (repeat refine Sat.seq ?_)
          (refine Sat.region_k fun k hk => ?_; simp -implicitDefEqProofs only [evr, id, seval, Nat.sub_zero, Option.map_none, ent0, ent1, ent2, ent3, ent4, regS, tupL, ptr, evn]; refine hk _ ?_; clear hk k; try show Sat _ _ _ _ _)
          refine Sat.cond_b rfl (fun h2 => ?_) (fun h2 => ?_)
          · (repeat refine Sat.seq ?_)
            (refine Sat.region_k fun k hk => ?_; simp -implicitDefEqProofs only [evr, id, seval, Nat.sub_zero, Option.map_none, ent0, ent1, ent2, ent3, ent4, regS, tupL, ptr, evn])
            intro bl
            refine wcall_plain (pickI cb bl [-1, 0, 33, 32] (fun _ => True) (by simp) (by simp) (fun _ _ => trivial)) (by simp -implicitDefEqProofs only [evr, id, seval, Nat.sub_zero, Option.map_none, ent0, ent1, ent2, ent3, ent4, regS, tupL, ptr, evn]) plain_pick ?_
            rintro r ⟨v, rfl, -⟩
            simp -implicitDefEqProofs only [evr, id, seval, Nat.sub_zero, Option.map_none, ent0, ent1, ent2, ent3, ent4, regS, tupL, ptr, evn]
            refine ⟨by omega, by omega, ?_⟩
            (refine hk _ ?_; clear hk k; try show Sat _ _ _ _ _)
            refine ⟨(a1, c1, es.set i ((es.getD i default).upd 1 v)), ⟨set_ok h (upd_ok (esOk_at h i) 1 v) i, by simp⟩, ?_⟩
            simp only [List.length_set]
            simp -implicitDefEqProofs only [evr, id, seval, Nat.sub_zero, Option.map_none, ent0, ent1, ent2, ent3, ent4, regS, tupL, ptr, evl, evn]
            exact upd_rd hi 1 (by decide) (by decide) v
          · (repeat refine Sat.seq ?_)
            (refine Sat.region_k fun k hk => ?_; simp -implicitDefEqProofs only [evr, id, seval, Nat.sub_zero, Option.map_none, ent0, ent1, ent2, ent3, ent4, regS, tupL, ptr, evn]; refine hk _ ?_; clear hk k; try show Sat _ _ _ _ _)
            refine Sat.cond_b rfl (fun h2 => ?_) (fun h2 => ?_)
            · (repeat refine Sat.seq ?_)
              (refine Sat.region_ord [0, 1, 2, 3, 4, 6, 7, 8, 5, 9, 10, 11, 12, 13] (by kernel_rfl) (by kernel_rfl) rfl rfl (fun _ _ h => h) fun k hk => ?_; simp only [List.map_cons, List.map_nil, List.getD_cons_zero, List.getD_cons_succ]; simp -implicitDefEqProofs only [evr, id, seval, Nat.sub_zero, Option.map_none, ent0, ent1, ent2, ent3, ent4, regS, tupL, ptr, evn])
              refine ⟨by omega, by omega, by omega, by omega, by omega, by omega, by omega, by omega, ?_⟩
              (refine hk _ ?_; clear hk k; try show Sat _ _ _ _ _)
              refine ⟨(a1, c1, (es.set i (es.getD 0 default)).set 0 (es.getD i default)), ⟨set_ok (set_ok h (esOk_at h 0) i) (esOk_at h i) 0, by simp⟩, ?_⟩
              simp only [List.length_set]
              simp -implicitDefEqProofs only [evr, id, seval, Nat.sub_zero, Option.map_none, ent0, ent1, ent2, ent3, ent4, regS, tupL, ptr, evl, evn]
              exact swap_rd hi
            · (repeat refine Sat.seq ?_)
              (refine Sat.region_k fun k hk => ?_; simp -implicitDefEqProofs only [evr, id, seval, Nat.sub_zero, Option.map_none, ent0, ent1, ent2, ent3, ent4, regS, tupL, ptr, evn]; refine hk _ ?_; clear hk k; try show Sat _ _ _ _ _)
              refine Sat.cond_b rfl (fun h2 => ?_) (fun h2 => ?_)
              · (repeat refine Sat.seq ?_)
                (refine Sat.region_k fun k hk => ?_; simp -implicitDefEqProofs only [evr, id, seval, Nat.sub_zero, Option.map_none, ent0, ent1, ent2, ent3, ent4, regS, tupL, ptr, evn])
                refine ⟨by omega, by omega, fun bl => ⟨⟨by unfold maxLen; omega, by omega⟩, fun a7 c7 => ?_⟩⟩
                (refine hk _ ?_; clear hk k; try show Sat _ _ _ _ _)
                refine ⟨(a7, c7, es ++ [es.getD i default]), ⟨fun x hx => ?_, by simp⟩, ?_⟩
                · rcases List.mem_append.1 hx with hx | hx
                  · exact h x hx
                  · rw [List.mem_singleton.1 hx]; exact esOk_at h i
                have e7 : (es ++ [es.getD i default]).length = es.length + 1 := by simp
                rw [e7]
                simp -implicitDefEqProofs only [evr, id, seval, Nat.sub_zero, Option.map_none, ent0, ent1, ent2, ent3, ent4, regS, tupL, ptr, evl, evn]
                exact app_rd es (entRd es) (fun _ _ _ _ => rfl) (es.getD i default) _ (fun q hq => by rcases (show q = 0 ∨ q = 1 ∨ q = 2 ∨ q = 3 ∨ q = 4 by omega) with rfl | rfl | rfl | rfl | rfl <;> rfl)
              · refine Sat.skip ?_
                simp only [thenK, blockK]
                refine ⟨(a1, c1, es), ⟨h, by simp only; omega⟩, ?_⟩
                simp -implicitDefEqProofs only [evr, id, seval, Nat.sub_zero, Option.map_none, ent0, ent1, ent2, ent3, ent4, regS, tupL, ptr, evl, evn]
    rintro ⟨a2, c2, fs⟩ ⟨g1, g2⟩
    simp only at g1 g2 ⊢
    (repeat refine Sat.seq ?_)
    (refine Sat.region_k fun k hk => ?_; simp -implicitDefEqProofs only [evr, id, seval, Nat.sub_zero, Option.map_none, ent0, ent1, ent2, ent3, ent4, regS, tupL, ptr, evn]; refine hk _ ?_; clear hk k; try show Sat _ _ _ _ _)
    refine Sat.ret ?_
    simp only [Tryz.results9, evr, id, seval, List.append_nil, Int.toNat_zero, Nat.sub_self, Nat.sub_zero, Option.map_none, ent0, ent1, ent2, ent3, ent4, regS, tupL, ptr]
    exact ⟨a2, c2, fs, _, _, rfl, fun _ _ _ _ => rfl, rfl, g1, g2⟩
end Go.Proofs.YtepkbbmjbbnhnaaGreatDoor

/- registry.Parse: what any text means, by the evaluator. -/
set_option linter.unusedSimpArgs false
set_option linter.unusedVariables false
namespace Go.Proofs.YtepkbbmjbbnhnaaGreatDoor
open Go.RowKit Eng Go.Sort
def parG : Nat → Nat → List UInt8 → List Ent → List Ent × Int × Int
  | 0, _, _, _ => ([], 0, 0)
  | f + 1, n, s, acc =>
    if s.length = 0 then (if RegOk acc then (acc, 0, 0) else ([], 0, 1))
    else if Lib.indexByte s 10 = -1 then ([], n, 2)
    else match entR (s.take (Lib.indexByte s 10).toNat) with
      | none => ([], n, 2)
      | some e => if EntOk e then parG f (n + 1) (s.drop ((Lib.indexByte s 10).toNat + 1)) (acc ++ [e]) else ([], n, 1)
def parV (s : List UInt8) : List Ent × Int × Int := if s.length ≤ 65536 then parG (s.length + 1) 1 s [] else ([], 0, 5)
theorem parG_end {f n : Nat} {s : List UInt8} {acc : List Ent} (h : s.length = 0) : parG (f + 1) n s acc = if RegOk acc then (acc, 0, 0) else ([], 0, 1) := by
  unfold parG; rw [if_pos h]
theorem parG_open {f n : Nat} {s : List UInt8} {acc : List Ent} (h : s.length ≠ 0) (hn : Lib.indexByte s 10 = -1) : parG (f + 1) n s acc = ([], (n : Int), 2) := by
  unfold parG; rw [if_neg h, if_pos hn]
theorem parG_bad {f n k : Nat} {s : List UInt8} {acc : List Ent} (h : s.length ≠ 0) (hn : Lib.indexByte s 10 = (k : Int)) (he : entR (s.take k) = none) : parG (f + 1) n s acc = ([], (n : Int), 2) := by
  unfold parG; rw [if_neg h, if_neg (by rw [hn]; omega), hn, Int.toNat_natCast, he]
theorem parG_off {f n k : Nat} {s : List UInt8} {acc : List Ent} {e : Ent} (h : s.length ≠ 0) (hn : Lib.indexByte s 10 = (k : Int)) (he : entR (s.take k) = some e) (ho : ¬ EntOk e) : parG (f + 1) n s acc = ([], (n : Int), 1) := by
  unfold parG; rw [if_neg h, if_neg (by rw [hn]; omega), hn, Int.toNat_natCast, he]; simp only; rw [if_neg ho]
theorem parG_on {f n k : Nat} {s : List UInt8} {acc : List Ent} {e : Ent} (h : s.length ≠ 0) (hn : Lib.indexByte s 10 = (k : Int)) (he : entR (s.take k) = some e) (ho : EntOk e) : parG (f + 1) n s acc = parG f (n + 1) (s.drop (k + 1)) (acc ++ [e]) := by
  rw [parG, if_neg h, if_neg (by rw [hn]; omega), hn, Int.toNat_natCast, he]; simp only; rw [if_pos ho]
theorem sim_tup3 {s s' t t' u u' : SV} (h0 : sim s s') (h1 : sim t t') (h2 : sim u u') : sim (tupL [s, t, u]) (tupL [s', t', u']) := by
  refine ⟨?_, fun R w h j hj => ?_⟩
  · simp only [tupL, SV.den, List.length_cons, List.length_nil]
    have : (List.range (0 + 1 + 1 + 1)) = [0, 1, 2] := rfl
    rw [this]
    simp only [List.map_cons, List.map_nil, List.getD_cons_zero, List.getD_cons_succ, h0.1, h1.1, h2.1]
  · have hj' : j < 3 := hj
    rcases (show j = 0 ∨ j = 1 ∨ j = 2 by omega) with rfl | rfl | rfl
    · exact h0.2 R w (h 0 (by simp))
    · exact h1.2 R w (h 1 (by simp))
    · exact h2.2 R w (h 2 (by simp))
def ParPost (s : List UInt8) (r : SV) : Prop := ∃ a c, r = tupL [regS a c (parV s).1, .i .i64 (parV s).2.1, .i .i64 (parV s).2.2]
theorem par_nil {s : List UInt8} {n e : Int} (h : parV s = ([], n, e)) (rd : Nat → Nat → SV) : ∃ r', sim (tupL [.agg 1 fun j => [SV.sl none 0 0 0 rd].getD j default, .i .i64 n, .i .i64 e]) r' ∧ ParPost s r' := by
  refine ⟨_, sim_tup3 (sim_agg1 (f := fun j => [SV.sl none 0 0 0 rd].getD j default) (g := fun j => [SV.sl none 0 0 5 (entRd [])].getD j default) (by show sim (SV.sl none 0 0 0 rd) (SV.sl none 0 0 5 (entRd [])); exact sim_nil 0 5 rd (entRd []))) (sim_refl _) (sim_refl _), none, 0, ?_⟩
  rw [h]
  rfl
theorem idx_cases (l : List UInt8) (c : UInt8) : Lib.indexByte l c = -1 ∨ ∃ n : Nat, Lib.indexByte l c = (n : Int) := by
  have := Lib.indexByte_ge l c
  rcases Int.lt_or_le (Lib.indexByte l c) 0 with h | h
  · exact .inl (by omega)
  · exact .inr (Int.eq_ofNat_of_zero_le h)
theorem lkS_ok2 (b : Option Ent) (R : Nat → Prop) (w : World) : (lkS b).ok R w := lkS_ok b R w
set_option maxRecDepth 100000 in
theorem regParseC (s0 : List UInt8) (hl : s0.length ≤ 60000) : Contract FrB Tryz.prog 32 [sB s0] (ParPost s0) := by
  refine Contract.same (post := fun r => (∃ n e rd, parV s0 = ([], n, e) ∧ r = tupL [.agg 1 fun j => [SV.sl none 0 0 0 rd].getD j default, .i .i64 n, .i .i64 e]) ∨ ParPost s0 r) ?_ (by
    rintro r (⟨n, e, rd, h1, rfl⟩ | h)
    · exact par_nil h1 rd
    · exact ⟨r, sim_refl _, h⟩)
  have hV : parV s0 = parG (s0.length + 1) 1 s0 [] := by unfold parV; rw [if_pos (by omega)]
  refine contract_of Tryz.func32 rfl (by kernel_rfl) ?_
  simp only [Tryz.ntmps32, argEnv]
  (repeat refine Sat.seq ?_)
  (refine Sat.region_k fun k hk => ?_; simp -implicitDefEqProofs only [evr, id, reduceCtorEq, reduceIte, Nat.reduceMul, Nat.reduceAdd, Nat.reduceLT, Nat.reduceLeDiff, Nat.reduceEqDiff, Int.reduceLT, Int.reduceBEq, Int.reduceBNe, Nat.reduceBEq, Int.reduceNeg, mkB_size, byteAt_mk, mkB_extract, mkB_append, mkB_toList, strsRd_at, tupL, empB, lkS, entS, Ent.cs, regS, evn])
  intro b2
  (refine hk _ ?_; clear hk k; try show Sat _ _ _ _ _)
  (repeat refine Sat.seq ?_)
  (refine Sat.region_k fun k hk => ?_; simp -implicitDefEqProofs only [evr, id, reduceCtorEq, reduceIte, Nat.reduceMul, Nat.reduceAdd, Nat.reduceLT, Nat.reduceLeDiff, Nat.reduceEqDiff, Int.reduceLT, Int.reduceBEq, Int.reduceBNe, Nat.reduceBEq, Int.reduceNeg, mkB_size, byteAt_mk, mkB_extract, mkB_append, mkB_toList, strsRd_at, tupL, empB, lkS, entS, Ent.cs, regS, evn]; refine hk _ ?_; clear hk k; try show Sat _ _ _ _ _)
  (repeat refine Sat.seq ?_)
  refine Sat.cond_b rfl (fun h => ?_) (fun _ => ?_)
  · simp only [decide_eq_true_eq] at h
    omega
  refine Sat.skip ?_
  simp only [thenK]
  refine Sat.adoptBox 0 0 31 5 (entRd []) rfl rfl ?_
  simp -implicitDefEqProofs only [evr, id, reduceCtorEq, reduceIte, Nat.reduceMul, Nat.reduceAdd, Nat.reduceLT, Nat.reduceLeDiff, Nat.reduceEqDiff, Int.reduceLT, Int.reduceBEq, Int.reduceBNe, Nat.reduceBEq, Int.reduceNeg, mkB_size, byteAt_mk, mkB_extract, mkB_append, mkB_toList, strsRd_at, tupL, empB, lkS, entS, Ent.cs, regS, evn]
  (repeat refine Sat.seq ?_)
  (refine Sat.region_k fun k hk => ?_; simp -implicitDefEqProofs only [evr, id, reduceCtorEq, reduceIte, Nat.reduceMul, Nat.reduceAdd, Nat.reduceLT, Nat.reduceLeDiff, Nat.reduceEqDiff, Int.reduceLT, Int.reduceBEq, Int.reduceBNe, Nat.reduceBEq, Int.reduceNeg, mkB_size, byteAt_mk, mkB_extract, mkB_append, mkB_toList, strsRd_at, tupL, empB, lkS, entS, Ent.cs, regS, evn]; refine hk _ ?_; clear hk k; try show Sat _ _ _ _ _)
  (repeat refine Sat.seq ?_)
  refine Sat.block ?_
  refine Sat.loop (ι := Nat × Nat × List UInt8 × Option Addr × Nat × List Ent) (fun x => ⟨57, [(5, .i .i64 x.2.1), (0, sB x.2.2.1), (2, .op 0 b2 0)],
      [.box b2 25 [.os 1 x.2.2.2.1 x.2.2.2.2.2.length x.2.2.2.2.1], .row x.2.2.2.1 31 x.2.2.2.2.2.length x.2.2.2.2.1 5 (entRd x.2.2.2.2.2)]⟩)
    (fun x => parV s0 = parG x.1 x.2.1 x.2.2.1 x.2.2.2.2.2 ∧ x.2.2.1.length < x.1 ∧ x.2.1 + x.2.2.1.length ≤ 60001 ∧ x.2.2.2.2.2.length + 1 = x.2.1 ∧ esOk x.2.2.2.2.2) (fun x => x.2.2.1.length) (s0.length + 1, 1, s0, none, 0, []) ⟨hV, by simp, by simp only; omega, rfl, fun e he => by cases he⟩ (by simp -implicitDefEqProofs only [evr, id, reduceCtorEq, reduceIte, Nat.reduceMul, Nat.reduceAdd, Nat.reduceLT, Nat.reduceLeDiff, Nat.reduceEqDiff, Int.reduceLT, Int.reduceBEq, Int.reduceBNe, Nat.reduceBEq, Int.reduceNeg, mkB_size, byteAt_mk, mkB_extract, mkB_append, mkB_toList, strsRd_at, tupL, empB, lkS, entS, Ent.cs, regS, evl, evn]; try rfl) ?_
  rintro ⟨f, n, s, a, c, acc⟩ ⟨hv, hf, hn, hacc, hok⟩
  simp only at hv hf hn hacc hok ⊢
  have e1 : IntKind.i64.wrap ((n : Int) + 1) = ((n + 1 : Nat) : Int) := by rw [w64 (by omega)]; omega
  obtain ⟨f, rfl⟩ : ∃ g, f = g + 1 := ⟨f - 1, by omega⟩
  (repeat refine Sat.seq ?_)
  (refine Sat.region_k fun k hk => ?_; simp -implicitDefEqProofs only [evr, id, reduceCtorEq, reduceIte, Nat.reduceMul, Nat.reduceAdd, Nat.reduceLT, Nat.reduceLeDiff, Nat.reduceEqDiff, Int.reduceLT, Int.reduceBEq, Int.reduceBNe, Nat.reduceBEq, Int.reduceNeg, mkB_size, byteAt_mk, mkB_extract, mkB_append, mkB_toList, strsRd_at, tupL, empB, lkS, entS, Ent.cs, regS, evn]; refine hk _ ?_; clear hk k; try show Sat _ _ _ _ _)
  (repeat refine Sat.seq ?_)
  refine Sat.cond_b rfl (fun h => ?_) (fun h => ?_)
  rotate_left
  · have hs0 : s.length = 0 := by simpa using h
    rw [parG_end hs0] at hv
    refine Sat.exit ?_
    simp only [thenK, blockK, reduceIte]
    refine Sat.settleLeaf 0 0 rfl rfl rfl ?_
    simp -implicitDefEqProofs only [evr, id, reduceCtorEq, reduceIte, Nat.reduceMul, Nat.reduceAdd, Nat.reduceLT, Nat.reduceLeDiff, Nat.reduceEqDiff, Int.reduceLT, Int.reduceBEq, Int.reduceBNe, Nat.reduceBEq, Int.reduceNeg, mkB_size, byteAt_mk, mkB_extract, mkB_append, mkB_toList, strsRd_at, tupL, empB, lkS, entS, Ent.cs, regS, evn]
    (repeat refine Sat.seq ?_)
    (refine Sat.region_k fun k hk => ?_; simp -implicitDefEqProofs only [evr, id, reduceCtorEq, reduceIte, Nat.reduceMul, Nat.reduceAdd, Nat.reduceLT, Nat.reduceLeDiff, Nat.reduceEqDiff, Int.reduceLT, Int.reduceBEq, Int.reduceBNe, Nat.reduceBEq, Int.reduceNeg, mkB_size, byteAt_mk, mkB_extract, mkB_append, mkB_toList, strsRd_at, tupL, empB, lkS, entS, Ent.cs, regS, evn])
    refine wcall_plain (regValidC FrB a c acc hok) (by first | rfl | (simp -implicitDefEqProofs only [evr, id, reduceCtorEq, reduceIte, Nat.reduceMul, Nat.reduceAdd, Nat.reduceLT, Nat.reduceLeDiff, Nat.reduceEqDiff, Int.reduceLT, Int.reduceBEq, Int.reduceBNe, Nat.reduceBEq, Int.reduceNeg, mkB_size, byteAt_mk, mkB_extract, mkB_append, mkB_toList, strsRd_at, tupL, empB, lkS, entS, Ent.cs, regS, evn]; rfl)) (by rintro _ rfl; exact ok_plain rfl) ?_
    rintro r rfl
    simp -implicitDefEqProofs only [evr, id, reduceCtorEq, reduceIte, Nat.reduceMul, Nat.reduceAdd, Nat.reduceLT, Nat.reduceLeDiff, Nat.reduceEqDiff, Int.reduceLT, Int.reduceBEq, Int.reduceBNe, Nat.reduceBEq, Int.reduceNeg, mkB_size, byteAt_mk, mkB_extract, mkB_append, mkB_toList, strsRd_at, tupL, empB, lkS, entS, Ent.cs, regS, evn]
    (refine hk _ ?_; clear hk k; try show Sat _ _ _ _ _)
    (repeat refine Sat.seq ?_)
    refine Sat.cond_b rfl (fun h9 => ?_) (fun h9 => ?_)
    · have hno : ¬ RegOk acc := by simpa using h9
      rw [if_neg hno] at hv
      (repeat refine Sat.seq ?_)
      (refine Sat.region_k fun k hk => ?_; simp -implicitDefEqProofs only [evr, id, reduceCtorEq, reduceIte, Nat.reduceMul, Nat.reduceAdd, Nat.reduceLT, Nat.reduceLeDiff, Nat.reduceEqDiff, Int.reduceLT, Int.reduceBEq, Int.reduceBNe, Nat.reduceBEq, Int.reduceNeg, mkB_size, byteAt_mk, mkB_extract, mkB_append, mkB_toList, strsRd_at, tupL, empB, lkS, entS, Ent.cs, regS, evn]; refine hk _ ?_; clear hk k; try show Sat _ _ _ _ _)
      refine Sat.ret ?_
      simp only [Tryz.results32, evr, id, reduceCtorEq, reduceIte, Nat.reduceMul, Nat.reduceAdd, Nat.reduceLT, Nat.reduceLeDiff, Nat.reduceEqDiff, Int.reduceLT, Int.reduceBEq, Int.reduceBNe, Nat.reduceBEq, List.append_nil, Int.toNat_zero, Nat.sub_self, Int.reduceNeg, mkB_size, byteAt_mk, mkB_extract, mkB_append, mkB_toList, strsRd_at, tupL, empB, lkS, entS, Ent.cs, regS]
      exact .inl ⟨0, 1, _, hv, rfl⟩
    · have hyes : RegOk acc := by simpa using h9
      rw [if_pos hyes] at hv
      refine Sat.skip ?_
      simp only [thenK]
      (repeat refine Sat.seq ?_)
      (refine Sat.region_k fun k hk => ?_; simp -implicitDefEqProofs only [evr, id, reduceCtorEq, reduceIte, Nat.reduceMul, Nat.reduceAdd, Nat.reduceLT, Nat.reduceLeDiff, Nat.reduceEqDiff, Int.reduceLT, Int.reduceBEq, Int.reduceBNe, Nat.reduceBEq, Int.reduceNeg, mkB_size, byteAt_mk, mkB_extract, mkB_append, mkB_toList, strsRd_at, tupL, empB, lkS, entS, Ent.cs, regS, evn]; refine hk _ ?_; clear hk k; try show Sat _ _ _ _ _)
      refine Sat.ret ?_
      simp only [Tryz.results32, evr, id, reduceCtorEq, reduceIte, Nat.reduceMul, Nat.reduceAdd, Nat.reduceLT, Nat.reduceLeDiff, Nat.reduceEqDiff, Int.reduceLT, Int.reduceBEq, Int.reduceBNe, Nat.reduceBEq, List.append_nil, Int.toNat_zero, Nat.sub_self, Int.reduceNeg, mkB_size, byteAt_mk, mkB_extract, mkB_append, mkB_toList, strsRd_at, tupL, empB, lkS, entS, Ent.cs, regS]
      refine .inr ⟨a, c, ?_⟩
      rw [hv]
      rfl
  have hs0 : s.length ≠ 0 := by simpa using h
  refine Sat.skip ?_
  simp only [thenK]
  (repeat refine Sat.seq ?_)
  refine Sat.block ?_
  (repeat refine Sat.seq ?_)
  rcases idx_cases s 10 with hi | ⟨q, hi⟩
  · have hp := parG_open (f := f) (n := n) (acc := acc) hs0 hi
    (refine Sat.region_k fun k hk => ?_; simp -implicitDefEqProofs only [evr, id, reduceCtorEq, reduceIte, Nat.reduceMul, Nat.reduceAdd, Nat.reduceLT, Nat.reduceLeDiff, Nat.reduceEqDiff, Int.reduceLT, Int.reduceBEq, Int.reduceBNe, Nat.reduceBEq, Int.reduceNeg, mkB_size, byteAt_mk, mkB_extract, mkB_append, mkB_toList, strsRd_at, tupL, empB, lkS, entS, Ent.cs, regS, evn])
    refine wcall_slice (cutNoL FrB 10 s hi) rfl (by first | rfl | (simp -implicitDefEqProofs only [evr, id, reduceCtorEq, reduceIte, Nat.reduceMul, Nat.reduceAdd, Nat.reduceLT, Nat.reduceLeDiff, Nat.reduceEqDiff, Int.reduceLT, Int.reduceBEq, Int.reduceBNe, Nat.reduceBEq, Int.reduceNeg, mkB_size, byteAt_mk, mkB_extract, mkB_append, mkB_toList, strsRd_at, tupL, empB, lkS, entS, Ent.cs, regS, evn])) ?_
    rintro r rfl
    simp -implicitDefEqProofs only [evr, id, reduceCtorEq, reduceIte, Nat.reduceMul, Nat.reduceAdd, Nat.reduceLT, Nat.reduceLeDiff, Nat.reduceEqDiff, Int.reduceLT, Int.reduceBEq, Int.reduceBNe, Nat.reduceBEq, Int.reduceNeg, mkB_size, byteAt_mk, mkB_extract, mkB_append, mkB_toList, strsRd_at, tupL, empB, lkS, entS, Ent.cs, regS, evn]
    (refine hk _ ?_; clear hk k; try show Sat _ _ _ _ _)
    (repeat refine Sat.seq ?_)
    (refine Sat.region_k fun k hk => ?_; simp -implicitDefEqProofs only [evr, id, reduceCtorEq, reduceIte, Nat.reduceMul, Nat.reduceAdd, Nat.reduceLT, Nat.reduceLeDiff, Nat.reduceEqDiff, Int.reduceLT, Int.reduceBEq, Int.reduceBNe, Nat.reduceBEq, Int.reduceNeg, mkB_size, byteAt_mk, mkB_extract, mkB_append, mkB_toList, strsRd_at, tupL, empB, lkS, entS, Ent.cs, regS, evn])
    refine wcall_plain (regEntryC s (by omega)) (by first | done | rfl) (by rintro _ rfl; exact lkS_ok2 _) ?_
    rintro r rfl
    simp -implicitDefEqProofs only [evr, id, reduceCtorEq, reduceIte, Nat.reduceMul, Nat.reduceAdd, Nat.reduceLT, Nat.reduceLeDiff, Nat.reduceEqDiff, Int.reduceLT, Int.reduceBEq, Int.reduceBNe, Nat.reduceBEq, Int.reduceNeg, mkB_size, byteAt_mk, mkB_extract, mkB_append, mkB_toList, strsRd_at, tupL, empB, lkS, entS, Ent.cs, regS, evn]
    intro b9
    (refine hk _ ?_; clear hk k; try show Sat _ _ _ _ _)
    (repeat refine Sat.seq ?_)
    refine Sat.block ?_
    (repeat refine Sat.seq ?_)
    (refine Sat.region_k fun k hk => ?_; simp -implicitDefEqProofs only [evr, id, reduceCtorEq, reduceIte, Nat.reduceMul, Nat.reduceAdd, Nat.reduceLT, Nat.reduceLeDiff, Nat.reduceEqDiff, Int.reduceLT, Int.reduceBEq, Int.reduceBNe, Nat.reduceBEq, Int.reduceNeg, mkB_size, byteAt_mk, mkB_extract, mkB_append, mkB_toList, strsRd_at, tupL, empB, lkS, entS, Ent.cs, regS, evn]; refine hk _ ?_; clear hk k; try show Sat _ _ _ _ _)
    refine Sat.cond_tt rfl ?_
    (repeat refine Sat.seq ?_)
    (refine Sat.region_k fun k hk => ?_; simp -implicitDefEqProofs only [evr, id, reduceCtorEq, reduceIte, Nat.reduceMul, Nat.reduceAdd, Nat.reduceLT, Nat.reduceLeDiff, Nat.reduceEqDiff, Int.reduceLT, Int.reduceBEq, Int.reduceBNe, Nat.reduceBEq, Int.reduceNeg, mkB_size, byteAt_mk, mkB_extract, mkB_append, mkB_toList, strsRd_at, tupL, empB, lkS, entS, Ent.cs, regS, evn]; refine hk _ ?_; clear hk k; try show Sat _ _ _ _ _)
    refine Sat.ret ?_
    simp only [thenK, blockK, Tryz.results32, evr, id, reduceCtorEq, reduceIte, Nat.reduceMul, Nat.reduceAdd, Nat.reduceLT, Nat.reduceLeDiff, Nat.reduceEqDiff, Int.reduceLT, Int.reduceBEq, Int.reduceBNe, Nat.reduceBEq, List.append_nil, Int.toNat_zero, Nat.sub_self, Int.reduceNeg, mkB_size, byteAt_mk, mkB_extract, mkB_append, mkB_toList, strsRd_at, tupL, empB, lkS, entS, Ent.cs, regS]
    exact .inl ⟨n, 2, _, hv.trans hp, rfl⟩
  · have hql := (index_some hi).1
    have hb := parG_bad (f := f) (n := n) (acc := acc) hs0 hi
    have ho := fun (e : Ent) => parG_off (f := f) (n := n) (acc := acc) (e := e) hs0 hi
    have hon := fun (e : Ent) => parG_on (f := f) (n := n) (acc := acc) (e := e) hs0 hi
    (refine Sat.region_k fun k hk => ?_; simp -implicitDefEqProofs only [evr, id, reduceCtorEq, reduceIte, Nat.reduceMul, Nat.reduceAdd, Nat.reduceLT, Nat.reduceLeDiff, Nat.reduceEqDiff, Int.reduceLT, Int.reduceBEq, Int.reduceBNe, Nat.reduceBEq, Int.reduceNeg, mkB_size, byteAt_mk, mkB_extract, mkB_append, mkB_toList, strsRd_at, tupL, empB, lkS, entS, Ent.cs, regS, evn])
    refine wcall_slice (cutL FrB 10 s q hi (by omega)) rfl (by first | rfl | (simp -implicitDefEqProofs only [evr, id, reduceCtorEq, reduceIte, Nat.reduceMul, Nat.reduceAdd, Nat.reduceLT, Nat.reduceLeDiff, Nat.reduceEqDiff, Int.reduceLT, Int.reduceBEq, Int.reduceBNe, Nat.reduceBEq, Int.reduceNeg, mkB_size, byteAt_mk, mkB_extract, mkB_append, mkB_toList, strsRd_at, tupL, empB, lkS, entS, Ent.cs, regS, evn])) ?_
    rintro r rfl
    simp -implicitDefEqProofs only [evr, id, reduceCtorEq, reduceIte, Nat.reduceMul, Nat.reduceAdd, Nat.reduceLT, Nat.reduceLeDiff, Nat.reduceEqDiff, Int.reduceLT, Int.reduceBEq, Int.reduceBNe, Nat.reduceBEq, Int.reduceNeg, mkB_size, byteAt_mk, mkB_extract, mkB_append, mkB_toList, strsRd_at, tupL, empB, lkS, entS, Ent.cs, regS, evn]
    (refine hk _ ?_; clear hk k; try show Sat _ _ _ _ _)
    have hl1 : (s.take q).length ≤ 100000 := by rw [List.length_take]; omega
    have hl2 : (s.drop (q + 1)).length + 1 ≤ s.length := by rw [List.length_drop]; omega
    generalize s.take q = line at *
    generalize s.drop (q + 1) = rest at *
    (repeat refine Sat.seq ?_)
    (refine Sat.region_k fun k hk => ?_; simp -implicitDefEqProofs only [evr, id, reduceCtorEq, reduceIte, Nat.reduceMul, Nat.reduceAdd, Nat.reduceLT, Nat.reduceLeDiff, Nat.reduceEqDiff, Int.reduceLT, Int.reduceBEq, Int.reduceBNe, Nat.reduceBEq, Int.reduceNeg, mkB_size, byteAt_mk, mkB_extract, mkB_append, mkB_toList, strsRd_at, tupL, empB, lkS, entS, Ent.cs, regS, evn])
    refine wcall_plain (regEntryC line hl1) (by first | done | rfl) (by rintro _ rfl; exact lkS_ok2 _) ?_
    rintro r rfl
    simp -implicitDefEqProofs only [evr, id, reduceCtorEq, reduceIte, Nat.reduceMul, Nat.reduceAdd, Nat.reduceLT, Nat.reduceLeDiff, Nat.reduceEqDiff, Int.reduceLT, Int.reduceBEq, Int.reduceBNe, Nat.reduceBEq, Int.reduceNeg, mkB_size, byteAt_mk, mkB_extract, mkB_append, mkB_toList, strsRd_at, tupL, empB, lkS, entS, Ent.cs, regS, evn]
    intro b9
    (refine hk _ ?_; clear hk k; try show Sat _ _ _ _ _)
    (repeat refine Sat.seq ?_)
    have hee := @entR_ok line
    cases hen : entR line with
    | none =>
      refine Sat.block ?_
      (repeat refine Sat.seq ?_)
      (refine Sat.region_k fun k hk => ?_; simp -implicitDefEqProofs only [evr, id, reduceCtorEq, reduceIte, Nat.reduceMul, Nat.reduceAdd, Nat.reduceLT, Nat.reduceLeDiff, Nat.reduceEqDiff, Int.reduceLT, Int.reduceBEq, Int.reduceBNe, Nat.reduceBEq, Int.reduceNeg, mkB_size, byteAt_mk, mkB_extract, mkB_append, mkB_toList, strsRd_at, tupL, empB, lkS, entS, Ent.cs, regS, evn]; refine hk _ ?_; clear hk k; try show Sat _ _ _ _ _)
      refine Sat.cond_b rfl (fun _ => ?_) (fun h9 => by simp at h9)
      (repeat refine Sat.seq ?_)
      (refine Sat.region_k fun k hk => ?_; simp -implicitDefEqProofs only [evr, id, reduceCtorEq, reduceIte, Nat.reduceMul, Nat.reduceAdd, Nat.reduceLT, Nat.reduceLeDiff, Nat.reduceEqDiff, Int.reduceLT, Int.reduceBEq, Int.reduceBNe, Nat.reduceBEq, Int.reduceNeg, mkB_size, byteAt_mk, mkB_extract, mkB_append, mkB_toList, strsRd_at, tupL, empB, lkS, entS, Ent.cs, regS, evn]; refine hk _ ?_; clear hk k; try show Sat _ _ _ _ _)
      refine Sat.ret ?_
      simp only [thenK, blockK, Tryz.results32, evr, id, reduceCtorEq, reduceIte, Nat.reduceMul, Nat.reduceAdd, Nat.reduceLT, Nat.reduceLeDiff, Nat.reduceEqDiff, Int.reduceLT, Int.reduceBEq, Int.reduceBNe, Nat.reduceBEq, List.append_nil, Int.toNat_zero, Nat.sub_self, Int.reduceNeg, mkB_size, byteAt_mk, mkB_extract, mkB_append, mkB_toList, strsRd_at, tupL, empB, lkS, entS, Ent.cs, regS]
      exact .inl ⟨n, 2, _, hv.trans (hb hen), rfl⟩
    | some e =>
      have heo : eOk e := hee hen
      have ho1 : optE (some e) = e := rfl
      simp only [ho1, Option.isSome_some]
      refine Sat.join2 (ι := Unit) (fun _ => ⟨57, [(5, .i .i64 n), (7, sB rest), (9, .op 2 b9 0), (2, .op 0 b2 0)],
        [.box b2 25 [.os 1 a acc.length c], .row a 31 acc.length c 5 (entRd acc), .box b9 31 (Ent.cs e)]⟩) (fun _ => EntOk e) (fun hrest => ?_) ?_
      · refine Sat.block ?_
        (repeat refine Sat.seq ?_)
        (refine Sat.region_k fun k hk => ?_; simp -implicitDefEqProofs only [evr, id, reduceCtorEq, reduceIte, Nat.reduceMul, Nat.reduceAdd, Nat.reduceLT, Nat.reduceLeDiff, Nat.reduceEqDiff, Int.reduceLT, Int.reduceBEq, Int.reduceBNe, Nat.reduceBEq, Int.reduceNeg, mkB_size, byteAt_mk, mkB_extract, mkB_append, mkB_toList, strsRd_at, tupL, empB, lkS, entS, Ent.cs, regS, evn]; refine hk _ ?_; clear hk k; try show Sat _ _ _ _ _)
        refine Sat.cond_b rfl (fun h9 => by simp at h9) (fun _ => ?_)
        (repeat refine Sat.seq ?_)
        (refine Sat.region_k fun k hk => ?_; simp -implicitDefEqProofs only [evr, id, reduceCtorEq, reduceIte, Nat.reduceMul, Nat.reduceAdd, Nat.reduceLT, Nat.reduceLeDiff, Nat.reduceEqDiff, Int.reduceLT, Int.reduceBEq, Int.reduceBNe, Nat.reduceBEq, Int.reduceNeg, mkB_size, byteAt_mk, mkB_extract, mkB_append, mkB_toList, strsRd_at, tupL, empB, lkS, entS, Ent.cs, regS, evn])
        refine wcall_plain (entryOkC FrB e heo) (by first | done | rfl) (by rintro _ rfl; exact ok_plain rfl) ?_
        rintro r rfl
        simp -implicitDefEqProofs only [evr, id, reduceCtorEq, reduceIte, Nat.reduceMul, Nat.reduceAdd, Nat.reduceLT, Nat.reduceLeDiff, Nat.reduceEqDiff, Int.reduceLT, Int.reduceBEq, Int.reduceBNe, Nat.reduceBEq, Int.reduceNeg, mkB_size, byteAt_mk, mkB_extract, mkB_append, mkB_toList, strsRd_at, tupL, empB, lkS, entS, Ent.cs, regS, evn]
        (refine hk _ ?_; clear hk k; try show Sat _ _ _ _ _)
        refine Sat.cond_b rfl (fun h9 => ?_) (fun h9 => ?_)
        · have hno : ¬ EntOk e := by simpa using h9
          (repeat refine Sat.seq ?_)
          (refine Sat.region_k fun k hk => ?_; simp -implicitDefEqProofs only [evr, id, reduceCtorEq, reduceIte, Nat.reduceMul, Nat.reduceAdd, Nat.reduceLT, Nat.reduceLeDiff, Nat.reduceEqDiff, Int.reduceLT, Int.reduceBEq, Int.reduceBNe, Nat.reduceBEq, Int.reduceNeg, mkB_size, byteAt_mk, mkB_extract, mkB_append, mkB_toList, strsRd_at, tupL, empB, lkS, entS, Ent.cs, regS, evn]; refine hk _ ?_; clear hk k; try show Sat _ _ _ _ _)
          refine Sat.ret ?_
          simp only [thenK, blockK, Tryz.results32, evr, id, reduceCtorEq, reduceIte, Nat.reduceMul, Nat.reduceAdd, Nat.reduceLT, Nat.reduceLeDiff, Nat.reduceEqDiff, Int.reduceLT, Int.reduceBEq, Int.reduceBNe, Nat.reduceBEq, List.append_nil, Int.toNat_zero, Nat.sub_self, Int.reduceNeg, mkB_size, byteAt_mk, mkB_extract, mkB_append, mkB_toList, strsRd_at, tupL, empB, lkS, entS, Ent.cs, regS]
          exact .inl ⟨n, 1, _, hv.trans (ho e hen hno), rfl⟩
        · have hyes : EntOk e := by simpa using h9
          refine Sat.skip ?_
          simp only [thenK, blockK]
          refine (hrest () hyes).le ?_
          simp only [Ent.cs]
          simp -implicitDefEqProofs only [evr, id, reduceCtorEq, reduceIte, Nat.reduceMul, Nat.reduceAdd, Nat.reduceLT, Nat.reduceLeDiff, Nat.reduceEqDiff, Int.reduceLT, Int.reduceBEq, Int.reduceBNe, Nat.reduceBEq, Int.reduceNeg, mkB_size, byteAt_mk, mkB_extract, mkB_append, mkB_toList, strsRd_at, tupL, empB, lkS, entS, Ent.cs, regS, evl, evn]
      rintro ⟨⟩ hyes
      simp only [Ent.cs]
      (repeat refine Sat.seq ?_)
      (refine Sat.region_k fun k hk => ?_; simp -implicitDefEqProofs only [evr, id, reduceCtorEq, reduceIte, Nat.reduceMul, Nat.reduceAdd, Nat.reduceLT, Nat.reduceLeDiff, Nat.reduceEqDiff, Int.reduceLT, Int.reduceBEq, Int.reduceBNe, Nat.reduceBEq, Int.reduceNeg, mkB_size, byteAt_mk, mkB_extract, mkB_append, mkB_toList, strsRd_at, tupL, empB, lkS, entS, Ent.cs, regS, evn])
      refine fun bl => ⟨⟨by unfold maxLen; omega, by omega⟩, fun a7 c7 => ?_⟩
      (refine hk _ ?_; clear hk k; try show Sat _ _ _ _ _)
      refine Sat.region_k fun k hk => ?_
      simp -implicitDefEqProofs only [evr, id, reduceCtorEq, reduceIte, Nat.reduceMul, Nat.reduceAdd, Nat.reduceLT, Nat.reduceLeDiff, Nat.reduceEqDiff, Int.reduceLT, Int.reduceBEq, Int.reduceBNe, Nat.reduceBEq, Int.reduceNeg, mkB_size, byteAt_mk, mkB_extract, mkB_append, mkB_toList, strsRd_at, tupL, empB, lkS, entS, Ent.cs, regS, evn]
      refine hk _ ?_
      simp only [thenK, blockK]
      refine Sat.region_k fun k hk => ?_
      simp -implicitDefEqProofs only [evr, id, reduceCtorEq, reduceIte, Nat.reduceMul, Nat.reduceAdd, Nat.reduceLT, Nat.reduceLeDiff, Nat.reduceEqDiff, Int.reduceLT, Int.reduceBEq, Int.reduceBNe, Nat.reduceBEq, Int.reduceNeg, mkB_size, byteAt_mk, mkB_extract, mkB_append, mkB_toList, strsRd_at, tupL, empB, lkS, entS, Ent.cs, regS, e1, evn]
      refine hk _ ?_
      simp only [thenK, blockK]
      refine ⟨(f, n + 1, rest, a7, c7, acc ++ [e]), ⟨hv.trans (hon e hen hyes), by simp only; omega, by simp only; omega, by simp; omega, fun x hx => ?_⟩, by simp only; omega, ?_⟩
      · rcases List.mem_append.1 hx with hx | hx
        · exact hok x hx
        · rw [List.mem_singleton.1 hx]; exact heo
      · have e7 : (acc ++ [e]).length = acc.length + 1 := by simp
        rw [e7]
        simp -implicitDefEqProofs only [evr, id, reduceCtorEq, reduceIte, Nat.reduceMul, Nat.reduceAdd, Nat.reduceLT, Nat.reduceLeDiff, Nat.reduceEqDiff, Int.reduceLT, Int.reduceBEq, Int.reduceBNe, Nat.reduceBEq, Int.reduceNeg, mkB_size, byteAt_mk, mkB_extract, mkB_append, mkB_toList, strsRd_at, tupL, empB, lkS, entS, Ent.cs, regS, evl, evn]
        exact app_rd acc (entRd acc) (fun _ _ _ _ => rfl) e _ (fun q hq => by rcases (show q = 0 ∨ q = 1 ∨ q = 2 ∨ q = 3 ∨ q = 4 by omega) with rfl | rfl | rfl | rfl | rfl <;> rfl)
end Go.Proofs.YtepkbbmjbbnhnaaGreatDoor

/- The reference's Parse of registries, by the evaluator. -/
set_option linter.unusedSimpArgs false
set_option linter.unusedVariables false
namespace Go.Proofs.YtepkbbmjbbnhnaaGreatDoor
open Go.RowKit Eng Go.Sort
theorem bnotT {b : Bool} (h : (!b) = true) : b = false := by cases b <;> first | rfl | cases h
theorem bnotF {b : Bool} (h : (!b) = false) : b = true := by cases b <;> first | rfl | cases h
theorem indexByteC (F : Frm) (l : List UInt8) : Contract F Tryz.prog 60 [sB l, .i .u8 10] (fun r => r = .i .i64 (Lib.indexByte l 10)) := by
  refine ofCalls1 Tryz.func60 rfl (by kernel_rfl) fun R w hs hR => ?_
  refine (Tryz.strings_IndexByte (mkB l) 10 w).mono ?_
  rintro e w' ⟨rfl, rfl⟩
  exact ⟨.i .i64 (Lib.indexByte l 10), rfl, rfl, trivial, below_refl _⟩
set_option maxRecDepth 100000 in
theorem refParseC (s0 : List UInt8) (hl : s0.length ≤ 60000) : Contract FrB Tryz.prog 35 [sB s0] (ParPost s0) := by
  refine Contract.same (post := fun r => (∃ n e rd, parV s0 = ([], n, e) ∧ r = tupL [.agg 1 fun j => [SV.sl none 0 0 0 rd].getD j default, .i .i64 n, .i .i64 e]) ∨ ParPost s0 r) ?_ (by
    rintro r (⟨n, e, rd, h1, rfl⟩ | h)
    · exact par_nil h1 rd
    · exact ⟨r, sim_refl _, h⟩)
  have hV : parV s0 = parG (s0.length + 1) 1 s0 [] := by unfold parV; rw [if_pos (by omega)]
  refine contract_of Tryz.func35 rfl (by kernel_rfl) ?_
  simp only [Tryz.ntmps35, argEnv]
  (repeat refine Sat.seq ?_)
  (refine Sat.region_k fun k hk => ?_; simp -implicitDefEqProofs only [evr, id, reduceCtorEq, reduceIte, Nat.reduceMul, Nat.reduceAdd, Nat.reduceLT, Nat.reduceLeDiff, Nat.reduceEqDiff, Int.reduceLT, Int.reduceBEq, Int.reduceBNe, Nat.reduceBEq, Int.reduceNeg, mkB_size, byteAt_mk, mkB_extract, mkB_append, mkB_toList, strsRd_at, tupL, empB, entS, Ent.cs, regS, prS, prC, numS, Int.reduceToNat, evn])
  intro b2
  (refine hk _ ?_; clear hk k; try show Sat _ _ _ _ _)
  (repeat refine Sat.seq ?_)
  (refine Sat.region_k fun k hk => ?_; simp -implicitDefEqProofs only [evr, id, reduceCtorEq, reduceIte, Nat.reduceMul, Nat.reduceAdd, Nat.reduceLT, Nat.reduceLeDiff, Nat.reduceEqDiff, Int.reduceLT, Int.reduceBEq, Int.reduceBNe, Nat.reduceBEq, Int.reduceNeg, mkB_size, byteAt_mk, mkB_extract, mkB_append, mkB_toList, strsRd_at, tupL, empB, entS, Ent.cs, regS, prS, prC, numS, Int.reduceToNat, evn]; refine hk _ ?_; clear hk k; try show Sat _ _ _ _ _)
  (repeat refine Sat.seq ?_)
  refine Sat.cond_b rfl (fun h => ?_) (fun _ => ?_)
  · simp only [decide_eq_true_eq] at h
    omega
  refine Sat.skip ?_
  simp only [thenK]
  refine Sat.adoptBox 0 0 31 5 (entRd []) rfl rfl ?_
  simp -implicitDefEqProofs only [evr, id, reduceCtorEq, reduceIte, Nat.reduceMul, Nat.reduceAdd, Nat.reduceLT, Nat.reduceLeDiff, Nat.reduceEqDiff, Int.reduceLT, Int.reduceBEq, Int.reduceBNe, Nat.reduceBEq, Int.reduceNeg, mkB_size, byteAt_mk, mkB_extract, mkB_append, mkB_toList, strsRd_at, tupL, empB, entS, Ent.cs, regS, prS, prC, numS, Int.reduceToNat, evn]
  (repeat refine Sat.seq ?_)
  refine Sat.block ?_
  refine Sat.loop (ι := Nat × Nat × List UInt8 × Option Addr × Nat × List Ent) (fun x => ⟨108, [(3, .i .i64 x.2.1), (0, sB x.2.2.1), (2, .op 0 b2 0)],
      [.box b2 25 [.os 1 x.2.2.2.1 x.2.2.2.2.2.length x.2.2.2.2.1], .row x.2.2.2.1 31 x.2.2.2.2.2.length x.2.2.2.2.1 5 (entRd x.2.2.2.2.2)]⟩)
    (fun x => parV s0 = parG x.1 (x.2.1 + 1) x.2.2.1 x.2.2.2.2.2 ∧ x.2.2.1.length < x.1 ∧ x.2.1 + x.2.2.1.length ≤ 60001 ∧ x.2.2.2.2.2.length = x.2.1 ∧ esOk x.2.2.2.2.2) (fun x => x.2.2.1.length) (s0.length + 1, 0, s0, none, 0, []) ⟨hV, by simp, by simp only; omega, rfl, fun e he => by cases he⟩ (by simp -implicitDefEqProofs only [evr, id, reduceCtorEq, reduceIte, Nat.reduceMul, Nat.reduceAdd, Nat.reduceLT, Nat.reduceLeDiff, Nat.reduceEqDiff, Int.reduceLT, Int.reduceBEq, Int.reduceBNe, Nat.reduceBEq, Int.reduceNeg, mkB_size, byteAt_mk, mkB_extract, mkB_append, mkB_toList, strsRd_at, tupL, empB, entS, Ent.cs, regS, prS, prC, numS, Int.reduceToNat, evl, evn]; try rfl) ?_
  rintro ⟨f, n, s, a, c, acc⟩ ⟨hv, hf, hn, hacc, hok⟩
  simp only at hv hf hn hacc hok ⊢
  have e1 : IntKind.i64.wrap ((n : Int) + 1) = ((n + 1 : Nat) : Int) := by rw [w64 (by omega)]; omega
  obtain ⟨f, rfl⟩ : ∃ g, f = g + 1 := ⟨f - 1, by omega⟩
  (repeat refine Sat.seq ?_)
  (refine Sat.region_k fun k hk => ?_; simp -implicitDefEqProofs only [evr, id, reduceCtorEq, reduceIte, Nat.reduceMul, Nat.reduceAdd, Nat.reduceLT, Nat.reduceLeDiff, Nat.reduceEqDiff, Int.reduceLT, Int.reduceBEq, Int.reduceBNe, Nat.reduceBEq, Int.reduceNeg, mkB_size, byteAt_mk, mkB_extract, mkB_append, mkB_toList, strsRd_at, tupL, empB, entS, Ent.cs, regS, prS, prC, numS, Int.reduceToNat, evn]; refine hk _ ?_; clear hk k; try show Sat _ _ _ _ _)
  (repeat refine Sat.seq ?_)
  refine Sat.cond_b rfl (fun h => ?_) (fun h => ?_)
  rotate_left
  · have hs0 : s.length = 0 := by simpa using h
    rw [parG_end hs0] at hv
    refine Sat.exit ?_
    simp only [thenK, blockK, reduceIte]
    refine Sat.settleLeaf 0 0 rfl rfl rfl ?_
    simp -implicitDefEqProofs only [evr, id, reduceCtorEq, reduceIte, Nat.reduceMul, Nat.reduceAdd, Nat.reduceLT, Nat.reduceLeDiff, Nat.reduceEqDiff, Int.reduceLT, Int.reduceBEq, Int.reduceBNe, Nat.reduceBEq, Int.reduceNeg, mkB_size, byteAt_mk, mkB_extract, mkB_append, mkB_toList, strsRd_at, tupL, empB, entS, Ent.cs, regS, prS, prC, numS, Int.reduceToNat, evn]
    (repeat refine Sat.seq ?_)
    (refine Sat.region_k fun k hk => ?_; simp -implicitDefEqProofs only [evr, id, reduceCtorEq, reduceIte, Nat.reduceMul, Nat.reduceAdd, Nat.reduceLT, Nat.reduceLeDiff, Nat.reduceEqDiff, Int.reduceLT, Int.reduceBEq, Int.reduceBNe, Nat.reduceBEq, Int.reduceNeg, mkB_size, byteAt_mk, mkB_extract, mkB_append, mkB_toList, strsRd_at, tupL, empB, entS, Ent.cs, regS, prS, prC, numS, Int.reduceToNat, evn])
    refine wcall_plain (refRegValidC FrB a c acc hok) (by first | rfl | (simp -implicitDefEqProofs only [evr, id, reduceCtorEq, reduceIte, Nat.reduceMul, Nat.reduceAdd, Nat.reduceLT, Nat.reduceLeDiff, Nat.reduceEqDiff, Int.reduceLT, Int.reduceBEq, Int.reduceBNe, Nat.reduceBEq, Int.reduceNeg, mkB_size, byteAt_mk, mkB_extract, mkB_append, mkB_toList, strsRd_at, tupL, empB, entS, Ent.cs, regS, prS, prC, numS, Int.reduceToNat, evn]; rfl)) (by rintro _ rfl; exact ok_plain rfl) ?_
    rintro r rfl
    simp -implicitDefEqProofs only [evr, id, reduceCtorEq, reduceIte, Nat.reduceMul, Nat.reduceAdd, Nat.reduceLT, Nat.reduceLeDiff, Nat.reduceEqDiff, Int.reduceLT, Int.reduceBEq, Int.reduceBNe, Nat.reduceBEq, Int.reduceNeg, mkB_size, byteAt_mk, mkB_extract, mkB_append, mkB_toList, strsRd_at, tupL, empB, entS, Ent.cs, regS, prS, prC, numS, Int.reduceToNat, evn]
    (refine hk _ ?_; clear hk k; try show Sat _ _ _ _ _)
    (repeat refine Sat.seq ?_)
    refine Sat.cond_b rfl (fun h9 => ?_) (fun h9 => ?_)
    · have hno : ¬ RegOk acc := by simpa using h9
      rw [if_neg hno] at hv
      (repeat refine Sat.seq ?_)
      (refine Sat.region_k fun k hk => ?_; simp -implicitDefEqProofs only [evr, id, reduceCtorEq, reduceIte, Nat.reduceMul, Nat.reduceAdd, Nat.reduceLT, Nat.reduceLeDiff, Nat.reduceEqDiff, Int.reduceLT, Int.reduceBEq, Int.reduceBNe, Nat.reduceBEq, Int.reduceNeg, mkB_size, byteAt_mk, mkB_extract, mkB_append, mkB_toList, strsRd_at, tupL, empB, entS, Ent.cs, regS, prS, prC, numS, Int.reduceToNat, evn]; refine hk _ ?_; clear hk k; try show Sat _ _ _ _ _)
      refine Sat.ret ?_
      simp only [Tryz.results35, evr, id, reduceCtorEq, reduceIte, Nat.reduceMul, Nat.reduceAdd, Nat.reduceLT, Nat.reduceLeDiff, Nat.reduceEqDiff, Int.reduceLT, Int.reduceBEq, Int.reduceBNe, Nat.reduceBEq, List.append_nil, Int.toNat_zero, Nat.sub_self, Int.reduceNeg, mkB_size, byteAt_mk, mkB_extract, mkB_append, mkB_toList, strsRd_at, tupL, empB, entS, Ent.cs, regS, prS, prC, numS, Int.reduceToNat]
      exact .inl ⟨0, 1, _, hv, rfl⟩
    · have hyes : RegOk acc := by simpa using h9
      rw [if_pos hyes] at hv
      refine Sat.skip ?_
      simp only [thenK]
      (repeat refine Sat.seq ?_)
      (refine Sat.region_k fun k hk => ?_; simp -implicitDefEqProofs only [evr, id, reduceCtorEq, reduceIte, Nat.reduceMul, Nat.reduceAdd, Nat.reduceLT, Nat.reduceLeDiff, Nat.reduceEqDiff, Int.reduceLT, Int.reduceBEq, Int.reduceBNe, Nat.reduceBEq, Int.reduceNeg, mkB_size, byteAt_mk, mkB_extract, mkB_append, mkB_toList, strsRd_at, tupL, empB, entS, Ent.cs, regS, prS, prC, numS, Int.reduceToNat, evn]; refine hk _ ?_; clear hk k; try show Sat _ _ _ _ _)
      refine Sat.ret ?_
      simp only [Tryz.results35, evr, id, reduceCtorEq, reduceIte, Nat.reduceMul, Nat.reduceAdd, Nat.reduceLT, Nat.reduceLeDiff, Nat.reduceEqDiff, Int.reduceLT, Int.reduceBEq, Int.reduceBNe, Nat.reduceBEq, List.append_nil, Int.toNat_zero, Nat.sub_self, Int.reduceNeg, mkB_size, byteAt_mk, mkB_extract, mkB_append, mkB_toList, strsRd_at, tupL, empB, entS, Ent.cs, regS, prS, prC, numS, Int.reduceToNat]
      refine .inr ⟨a, c, ?_⟩
      rw [hv]
      rfl
  have hs0 : s.length ≠ 0 := by simpa using h
  refine Sat.skip ?_
  simp only [thenK]
  (repeat refine Sat.seq ?_)
  refine Sat.block ?_
  (repeat refine Sat.seq ?_)
  refine Sat.region_k fun k hk => ?_
  simp -implicitDefEqProofs only [evr, id, reduceCtorEq, reduceIte, Nat.reduceMul, Nat.reduceAdd, Nat.reduceLT, Nat.reduceLeDiff, Nat.reduceEqDiff, Int.reduceLT, Int.reduceBEq, Int.reduceBNe, Nat.reduceBEq, Int.reduceNeg, mkB_size, byteAt_mk, mkB_extract, mkB_append, mkB_toList, strsRd_at, tupL, empB, entS, Ent.cs, regS, prS, prC, numS, Int.reduceToNat, e1, evn]
  (refine hk _ ?_; clear hk k; try show Sat _ _ _ _ _)
  (repeat refine Sat.seq ?_)
  (refine Sat.region_k fun k hk => ?_; simp -implicitDefEqProofs only [evr, id, reduceCtorEq, reduceIte, Nat.reduceMul, Nat.reduceAdd, Nat.reduceLT, Nat.reduceLeDiff, Nat.reduceEqDiff, Int.reduceLT, Int.reduceBEq, Int.reduceBNe, Nat.reduceBEq, Int.reduceNeg, mkB_size, byteAt_mk, mkB_extract, mkB_append, mkB_toList, strsRd_at, tupL, empB, entS, Ent.cs, regS, prS, prC, numS, Int.reduceToNat, evn])
  refine wcall_plain (indexByteC FrB s) (by first | done | rfl) (by rintro _ rfl; exact ok_plain rfl) ?_
  rintro r rfl
  simp -implicitDefEqProofs only [evr, id, reduceCtorEq, reduceIte, Nat.reduceMul, Nat.reduceAdd, Nat.reduceLT, Nat.reduceLeDiff, Nat.reduceEqDiff, Int.reduceLT, Int.reduceBEq, Int.reduceBNe, Nat.reduceBEq, Int.reduceNeg, mkB_size, byteAt_mk, mkB_extract, mkB_append, mkB_toList, strsRd_at, tupL, empB, entS, Ent.cs, regS, prS, prC, numS, Int.reduceToNat, evn]
  (refine hk _ ?_; clear hk k; try show Sat _ _ _ _ _)
  (repeat refine Sat.seq ?_)
  (refine Sat.region_k fun k hk => ?_; simp -implicitDefEqProofs only [evr, id, reduceCtorEq, reduceIte, Nat.reduceMul, Nat.reduceAdd, Nat.reduceLT, Nat.reduceLeDiff, Nat.reduceEqDiff, Int.reduceLT, Int.reduceBEq, Int.reduceBNe, Nat.reduceBEq, Int.reduceNeg, mkB_size, byteAt_mk, mkB_extract, mkB_append, mkB_toList, strsRd_at, tupL, empB, entS, Ent.cs, regS, prS, prC, numS, Int.reduceToNat, evn]; refine hk _ ?_; clear hk k; try show Sat _ _ _ _ _)
  (repeat refine Sat.seq ?_)
  rcases idx_cases s 10 with hi | ⟨q, hi⟩
  · have hp := parG_open (f := f) (n := n + 1) (acc := acc) hs0 hi
    simp only [hi]
    refine Sat.cond_b rfl (fun _ => ?_) (fun h9 => absurd h9 (by decide))
    (repeat refine Sat.seq ?_)
    (refine Sat.region_k fun k hk => ?_; simp -implicitDefEqProofs only [evr, id, reduceCtorEq, reduceIte, Nat.reduceMul, Nat.reduceAdd, Nat.reduceLT, Nat.reduceLeDiff, Nat.reduceEqDiff, Int.reduceLT, Int.reduceBEq, Int.reduceBNe, Nat.reduceBEq, Int.reduceNeg, mkB_size, byteAt_mk, mkB_extract, mkB_append, mkB_toList, strsRd_at, tupL, empB, entS, Ent.cs, regS, prS, prC, numS, Int.reduceToNat, evn]; refine hk _ ?_; clear hk k; try show Sat _ _ _ _ _)
    refine Sat.ret ?_
    simp only [thenK, blockK, Tryz.results35, evr, id, reduceCtorEq, reduceIte, Nat.reduceMul, Nat.reduceAdd, Nat.reduceLT, Nat.reduceLeDiff, Nat.reduceEqDiff, Int.reduceLT, Int.reduceBEq, Int.reduceBNe, Nat.reduceBEq, List.append_nil, Int.toNat_zero, Nat.sub_self, Int.reduceNeg, mkB_size, byteAt_mk, mkB_extract, mkB_append, mkB_toList, strsRd_at, tupL, empB, entS, Ent.cs, regS, prS, prC, numS, Int.reduceToNat]
    exact .inl ⟨(n + 1 : Nat), 2, _, hv.trans hp, rfl⟩
  have hql := (index_some hi).1
  have hb := parG_bad (f := f) (n := n + 1) (acc := acc) hs0 hi
  have ho := fun (e : Ent) => parG_off (f := f) (n := n + 1) (acc := acc) (e := e) hs0 hi
  have hon := fun (e : Ent) => parG_on (f := f) (n := n + 1) (acc := acc) (e := e) hs0 hi
  have hl1 : (s.take q).length ≤ 100000 := by rw [List.length_take]; omega
  have hl2 : (s.drop (q + 1)).length + 1 ≤ s.length := by rw [List.length_drop]; omega
  have e2 : IntKind.i64.wrap ((q : Int) + 1) = ((q + 1 : Nat) : Int) := by rw [w64 (by omega)]; omega
  simp only [hi]
  refine Sat.cond_b rfl (fun h9 => ?_) (fun _ => ?_)
  · simp only [decide_eq_true_eq] at h9
    omega
  refine Sat.skip ?_
  simp only [thenK]
  (repeat refine Sat.seq ?_)
  refine Sat.region_k fun k hk => ?_
  simp -implicitDefEqProofs only [evr, id, reduceCtorEq, reduceIte, Nat.reduceMul, Nat.reduceAdd, Nat.reduceLT, Nat.reduceLeDiff, Nat.reduceEqDiff, Int.reduceLT, Int.reduceBEq, Int.reduceBNe, Nat.reduceBEq, Int.reduceNeg, mkB_size, byteAt_mk, mkB_extract, mkB_append, mkB_toList, strsRd_at, tupL, empB, entS, Ent.cs, regS, prS, prC, numS, Int.reduceToNat, evn]
  refine ⟨by omega, ?_⟩
  rw [Nat.sub_zero]
  refine wcall_slice (splitC FrB 32 (s.take q) (by omega)) rfl (by first | rfl | (simp -implicitDefEqProofs only [evr, id, reduceCtorEq, reduceIte, Nat.reduceMul, Nat.reduceAdd, Nat.reduceLT, Nat.reduceLeDiff, Nat.reduceEqDiff, Int.reduceLT, Int.reduceBEq, Int.reduceBNe, Nat.reduceBEq, Int.reduceNeg, mkB_size, byteAt_mk, mkB_extract, mkB_append, mkB_toList, strsRd_at, tupL, empB, entS, Ent.cs, regS, prS, prC, numS, Int.reduceToNat, evn])) ?_
  rintro r ⟨a6, c6, rfl⟩
  simp -implicitDefEqProofs only [evr, id, reduceCtorEq, reduceIte, Nat.reduceMul, Nat.reduceAdd, Nat.reduceLT, Nat.reduceLeDiff, Nat.reduceEqDiff, Int.reduceLT, Int.reduceBEq, Int.reduceBNe, Nat.reduceBEq, Int.reduceNeg, mkB_size, byteAt_mk, mkB_extract, mkB_append, mkB_toList, strsRd_at, tupL, empB, entS, Ent.cs, regS, prS, prC, numS, Int.reduceToNat, evn]
  (refine hk _ ?_; clear hk k; try show Sat _ _ _ _ _)
  (repeat refine Sat.seq ?_)
  have hdr : (s.drop (q + 1)).take (s.length - (q + 1)) = s.drop (q + 1) := List.take_of_length_le (by rw [List.length_drop]; exact Nat.le_refl _)
  refine Sat.region_k fun k hk => ?_
  simp -implicitDefEqProofs only [evr, id, reduceCtorEq, reduceIte, Nat.reduceMul, Nat.reduceAdd, Nat.reduceLT, Nat.reduceLeDiff, Nat.reduceEqDiff, Int.reduceLT, Int.reduceBEq, Int.reduceBNe, Nat.reduceBEq, Int.reduceNeg, mkB_size, byteAt_mk, mkB_extract, mkB_append, mkB_toList, strsRd_at, tupL, empB, entS, Ent.cs, regS, prS, prC, numS, Int.reduceToNat, e2, Int.toNat_natCast, hdr, evn]
  refine ⟨by omega, ?_⟩
  (refine hk _ ?_; clear hk k; try show Sat _ _ _ _ _)
  have hlen := @entR_len (s.take q)
  have hbd := @entR_bad (s.take q)
  have hgd := @entR_good (s.take q)
  have hmem : ∀ w ∈ splitB 32 (s.take q), w.length ≤ 100000 := fun w hw => Nat.le_trans (split_mem hw) hl1
  generalize s.take q = line at *
  generalize s.drop (q + 1) = rest at *
  generalize splitB 32 line = ws at *
  (repeat refine Sat.seq ?_)
  (refine Sat.region_k fun k hk => ?_; simp -implicitDefEqProofs only [evr, id, reduceCtorEq, reduceIte, Nat.reduceMul, Nat.reduceAdd, Nat.reduceLT, Nat.reduceLeDiff, Nat.reduceEqDiff, Int.reduceLT, Int.reduceBEq, Int.reduceBNe, Nat.reduceBEq, Int.reduceNeg, mkB_size, byteAt_mk, mkB_extract, mkB_append, mkB_toList, strsRd_at, tupL, empB, entS, Ent.cs, regS, prS, prC, numS, Int.reduceToNat, evn]; refine hk _ ?_; clear hk k; try show Sat _ _ _ _ _)
  (repeat refine Sat.seq ?_)
  refine Sat.cond_b rfl (fun h9 => ?_) (fun h9 => ?_)
  · have hno : entR line = none := hlen (fun h4 => by rw [h4] at h9; exact absurd h9 (by decide))
    (repeat refine Sat.seq ?_)
    (refine Sat.region_k fun k hk => ?_; simp -implicitDefEqProofs only [evr, id, reduceCtorEq, reduceIte, Nat.reduceMul, Nat.reduceAdd, Nat.reduceLT, Nat.reduceLeDiff, Nat.reduceEqDiff, Int.reduceLT, Int.reduceBEq, Int.reduceBNe, Nat.reduceBEq, Int.reduceNeg, mkB_size, byteAt_mk, mkB_extract, mkB_append, mkB_toList, strsRd_at, tupL, empB, entS, Ent.cs, regS, prS, prC, numS, Int.reduceToNat, evn]; refine hk _ ?_; clear hk k; try show Sat _ _ _ _ _)
    refine Sat.ret ?_
    simp only [thenK, blockK, Tryz.results35, evr, id, reduceCtorEq, reduceIte, Nat.reduceMul, Nat.reduceAdd, Nat.reduceLT, Nat.reduceLeDiff, Nat.reduceEqDiff, Int.reduceLT, Int.reduceBEq, Int.reduceBNe, Nat.reduceBEq, List.append_nil, Int.toNat_zero, Nat.sub_self, Int.reduceNeg, mkB_size, byteAt_mk, mkB_extract, mkB_append, mkB_toList, strsRd_at, tupL, empB, entS, Ent.cs, regS, prS, prC, numS, Int.reduceToNat]
    exact .inl ⟨(n + 1 : Nat), 2, _, hv.trans (hb hno), rfl⟩
  have h4 : ws.length = 4 := by
    simp only [bne_eq_false_iff_eq] at h9
    omega
  clear h9 hlen
  obtain ⟨w0, w1, w2, w3, rfl⟩ := len4 h4
  have m0 := hmem w0 (by simp)
  have m1 := hmem w1 (by simp)
  have m2 := hmem w2 (by simp)
  have m3 := hmem w3 (by simp)
  clear hmem h4
  refine Sat.skip ?_
  simp only [thenK]
  (repeat refine Sat.seq ?_)
  (refine Sat.region_k fun k hk => ?_; simp -implicitDefEqProofs only [evr, id, reduceCtorEq, reduceIte, Nat.reduceMul, Nat.reduceAdd, Nat.reduceLT, Nat.reduceLeDiff, Nat.reduceEqDiff, Int.reduceLT, Int.reduceBEq, Int.reduceBNe, Nat.reduceBEq, Int.reduceNeg, mkB_size, byteAt_mk, mkB_extract, mkB_append, mkB_toList, strsRd_at, tupL, empB, entS, Ent.cs, regS, prS, prC, numS, Int.reduceToNat, evn])
  refine ⟨by decide, ?_⟩
  refine wcall_slice (rfParsePrefixC FrB w0 (by omega)) rfl (by first | rfl | (simp -implicitDefEqProofs only [evr, id, reduceCtorEq, reduceIte, Nat.reduceMul, Nat.reduceAdd, Nat.reduceLT, Nat.reduceLeDiff, Nat.reduceEqDiff, Int.reduceLT, Int.reduceBEq, Int.reduceBNe, Nat.reduceBEq, Int.reduceNeg, mkB_size, byteAt_mk, mkB_extract, mkB_append, mkB_toList, strsRd_at, tupL, empB, entS, Ent.cs, regS, prS, prC, numS, Int.reduceToNat, evn])) ?_
  rintro r rfl
  have hps : ∃ p : Prf, ∃ er : Int, parPS w0 = tupL [prS p, .i .i64 er] ∧ (parP w0 = some p ∧ er = 0 ∨ parP w0 = none ∧ er = 2) := by
    unfold parPS
    cases h : parP w0 with
    | none => exact ⟨_, _, rfl, .inr ⟨rfl, rfl⟩⟩
    | some p => exact ⟨_, _, rfl, .inl ⟨rfl, rfl⟩⟩
  obtain ⟨p, er, e3, hpe⟩ := hps
  rw [e3]
  simp -implicitDefEqProofs only [evr, id, reduceCtorEq, reduceIte, Nat.reduceMul, Nat.reduceAdd, Nat.reduceLT, Nat.reduceLeDiff, Nat.reduceEqDiff, Int.reduceLT, Int.reduceBEq, Int.reduceBNe, Nat.reduceBEq, Int.reduceNeg, mkB_size, byteAt_mk, mkB_extract, mkB_append, mkB_toList, strsRd_at, tupL, empB, entS, Ent.cs, regS, prS, prC, numS, Int.reduceToNat, evn]
  intro b7
  (refine hk _ ?_; clear hk k; try show Sat _ _ _ _ _)
  (repeat refine Sat.seq ?_)
  (refine Sat.region_k fun k hk => ?_; simp -implicitDefEqProofs only [evr, id, reduceCtorEq, reduceIte, Nat.reduceMul, Nat.reduceAdd, Nat.reduceLT, Nat.reduceLeDiff, Nat.reduceEqDiff, Int.reduceLT, Int.reduceBEq, Int.reduceBNe, Nat.reduceBEq, Int.reduceNeg, mkB_size, byteAt_mk, mkB_extract, mkB_append, mkB_toList, strsRd_at, tupL, empB, entS, Ent.cs, regS, prS, prC, numS, Int.reduceToNat, evn])
  refine ⟨by decide, ?_⟩
  refine wcall_plain (refDecimalC FrB w1 m1) (by first | done | rfl) (by rintro _ rfl; exact numS_ok _) ?_
  rintro r rfl
  simp -implicitDefEqProofs only [evr, id, reduceCtorEq, reduceIte, Nat.reduceMul, Nat.reduceAdd, Nat.reduceLT, Nat.reduceLeDiff, Nat.reduceEqDiff, Int.reduceLT, Int.reduceBEq, Int.reduceBNe, Nat.reduceBEq, Int.reduceNeg, mkB_size, byteAt_mk, mkB_extract, mkB_append, mkB_toList, strsRd_at, tupL, empB, entS, Ent.cs, regS, prS, prC, numS, Int.reduceToNat, evn]
  (refine hk _ ?_; clear hk k; try show Sat _ _ _ _ _)
  (repeat refine Sat.seq ?_)
  (refine Sat.region_k fun k hk => ?_; simp -implicitDefEqProofs only [evr, id, reduceCtorEq, reduceIte, Nat.reduceMul, Nat.reduceAdd, Nat.reduceLT, Nat.reduceLeDiff, Nat.reduceEqDiff, Int.reduceLT, Int.reduceBEq, Int.reduceBNe, Nat.reduceBEq, Int.reduceNeg, mkB_size, byteAt_mk, mkB_extract, mkB_append, mkB_toList, strsRd_at, tupL, empB, entS, Ent.cs, regS, prS, prC, numS, Int.reduceToNat, evn])
  refine ⟨by decide, ?_⟩
  refine wcall_plain (refDecimalC FrB w2 m2) (by first | done | rfl) (by rintro _ rfl; exact numS_ok _) ?_
  rintro r rfl
  simp -implicitDefEqProofs only [evr, id, reduceCtorEq, reduceIte, Nat.reduceMul, Nat.reduceAdd, Nat.reduceLT, Nat.reduceLeDiff, Nat.reduceEqDiff, Int.reduceLT, Int.reduceBEq, Int.reduceBNe, Nat.reduceBEq, Int.reduceNeg, mkB_size, byteAt_mk, mkB_extract, mkB_append, mkB_toList, strsRd_at, tupL, empB, entS, Ent.cs, regS, prS, prC, numS, Int.reduceToNat, evn]
  (refine hk _ ?_; clear hk k; try show Sat _ _ _ _ _)
  (repeat refine Sat.seq ?_)
  (refine Sat.region_k fun k hk => ?_; simp -implicitDefEqProofs only [evr, id, reduceCtorEq, reduceIte, Nat.reduceMul, Nat.reduceAdd, Nat.reduceLT, Nat.reduceLeDiff, Nat.reduceEqDiff, Int.reduceLT, Int.reduceBEq, Int.reduceBNe, Nat.reduceBEq, Int.reduceNeg, mkB_size, byteAt_mk, mkB_extract, mkB_append, mkB_toList, strsRd_at, tupL, empB, entS, Ent.cs, regS, prS, prC, numS, Int.reduceToNat, evn])
  refine ⟨by decide, ?_⟩
  refine wcall_plain (refDecimalC FrB w3 m3) (by first | done | rfl) (by rintro _ rfl; exact numS_ok _) ?_
  rintro r rfl
  simp -implicitDefEqProofs only [evr, id, reduceCtorEq, reduceIte, Nat.reduceMul, Nat.reduceAdd, Nat.reduceLT, Nat.reduceLeDiff, Nat.reduceEqDiff, Int.reduceLT, Int.reduceBEq, Int.reduceBNe, Nat.reduceBEq, Int.reduceNeg, mkB_size, byteAt_mk, mkB_extract, mkB_append, mkB_toList, strsRd_at, tupL, empB, entS, Ent.cs, regS, prS, prC, numS, Int.reduceToNat, evn]
  (refine hk _ ?_; clear hk k; try show Sat _ _ _ _ _)
  (repeat refine Sat.seq ?_)
  have hbad9 : (er != 0) = true ∨ (numR w1).isSome = false ∨ (numR w2).isSome = false ∨ (numR w3).isSome = false → entR line = none := fun h => by
    refine hbd rfl ?_
    rcases h with h | h | h | h
    · left
      rcases hpe with ⟨_, rfl⟩ | ⟨h1, _⟩
      · exact absurd h (by decide)
      · exact h1
    · right; left; simpa using h
    · right; right; left; simpa using h
    · right; right; right; simpa using h
  refine Sat.region_at ⟨108, [(84, .b (entR line).isNone), (13, .i .i64 ((numR w3).getD 0 : Nat)), (11, .i .i64 ((numR w2).getD 0 : Nat)), (9, .i .i64 ((numR w1).getD 0 : Nat)), (7, .op 2 b7 0), (3, .i .i64 (n + 1 : Nat)), (0, sB rest), (2, .op 0 b2 0)], [.box b2 25 [.os 1 a acc.length c], .row a 31 acc.length c 5 (entRd acc), .box b7 29 [.i .u32 p.addr, .i .i64 p.len]]⟩ (fun k hk => ?_) ?_
  · simp -implicitDefEqProofs only [evr, id, reduceCtorEq, reduceIte, Nat.reduceMul, Nat.reduceAdd, Nat.reduceLT, Nat.reduceLeDiff, Nat.reduceEqDiff, Int.reduceLT, Int.reduceBEq, Int.reduceBNe, Nat.reduceBEq, Int.reduceNeg, mkB_size, byteAt_mk, mkB_extract, mkB_append, mkB_toList, strsRd_at, tupL, empB, entS, Ent.cs, regS, prS, prC, numS, Int.reduceToNat, evn]
    repeat' (first
      | (with_reducible refine And.intro ?_ ?_)
      | (with_reducible intro hh)
      | (with_reducible refine hk _ ?_
         first
         | (have e9 : (entR line).isNone = true := by
              clear hk
              rw [hbad9 (by first | exact .inl (by assumption) | exact .inr (.inl (bnotT (by assumption))) | exact .inr (.inr (.inl (bnotT (by assumption)))))]
              rfl
            simp only [e9]
            simp -implicitDefEqProofs only [evr, id, reduceCtorEq, reduceIte, Nat.reduceMul, Nat.reduceAdd, Nat.reduceLT, Nat.reduceLeDiff, Nat.reduceEqDiff, Int.reduceLT, Int.reduceBEq, Int.reduceBNe, Nat.reduceBEq, Int.reduceNeg, mkB_size, byteAt_mk, mkB_extract, mkB_append, mkB_toList, strsRd_at, tupL, empB, entS, Ent.cs, regS, prS, prC, numS, Int.reduceToNat, evl, evn]
            done)
         | (have e9 : (entR line).isNone = !(numR w3).isSome := by
              clear hk
              have k0 : (er != 0) = false := by assumption
              have k1 : (numR w1).isSome = true := bnotF (by assumption)
              have k2 : (numR w2).isSome = true := bnotF (by assumption)
              cases h3 : numR w3 with
              | none => rw [hbad9 (.inr (.inr (.inr (by rw [h3]; rfl))))]; rfl
              | some v =>
                rcases hpe with ⟨hp, _⟩ | ⟨_, rfl⟩
                · obtain ⟨x, hx⟩ := Option.isSome_iff_exists.1 k1
                  obtain ⟨y, hy⟩ := Option.isSome_iff_exists.1 k2
                  rw [hgd rfl hp hx hy h3]
                  rfl
                · exact absurd k0 (by decide)
            simp only [e9]
            simp -implicitDefEqProofs only [evr, id, reduceCtorEq, reduceIte, Nat.reduceMul, Nat.reduceAdd, Nat.reduceLT, Nat.reduceLeDiff, Nat.reduceEqDiff, Int.reduceLT, Int.reduceBEq, Int.reduceBNe, Nat.reduceBEq, Int.reduceNeg, mkB_size, byteAt_mk, mkB_extract, mkB_append, mkB_toList, strsRd_at, tupL, empB, entS, Ent.cs, regS, prS, prC, numS, Int.reduceToNat, evl, evn]
            done)))
  refine Sat.cond_b rfl (fun h9 => ?_) (fun h9 => ?_)
  · have hno : entR line = none := by simpa using h9
    (repeat refine Sat.seq ?_)
    (refine Sat.region_k fun k hk => ?_; simp -implicitDefEqProofs only [evr, id, reduceCtorEq, reduceIte, Nat.reduceMul, Nat.reduceAdd, Nat.reduceLT, Nat.reduceLeDiff, Nat.reduceEqDiff, Int.reduceLT, Int.reduceBEq, Int.reduceBNe, Nat.reduceBEq, Int.reduceNeg, mkB_size, byteAt_mk, mkB_extract, mkB_append, mkB_toList, strsRd_at, tupL, empB, entS, Ent.cs, regS, prS, prC, numS, Int.reduceToNat, evn]; refine hk _ ?_; clear hk k; try show Sat _ _ _ _ _)
    refine Sat.ret ?_
    simp only [thenK, blockK, Tryz.results35, evr, id, reduceCtorEq, reduceIte, Nat.reduceMul, Nat.reduceAdd, Nat.reduceLT, Nat.reduceLeDiff, Nat.reduceEqDiff, Int.reduceLT, Int.reduceBEq, Int.reduceBNe, Nat.reduceBEq, List.append_nil, Int.toNat_zero, Nat.sub_self, Int.reduceNeg, mkB_size, byteAt_mk, mkB_extract, mkB_append, mkB_toList, strsRd_at, tupL, empB, entS, Ent.cs, regS, prS, prC, numS, Int.reduceToNat]
    exact .inl ⟨(n + 1 : Nat), 2, _, hv.trans (hb hno), rfl⟩
  have hsm : ¬ entR line = none := fun h => by rw [h] at h9; cases h9
  have hall : (er != 0) = false ∧ (numR w1).isSome = true ∧ (numR w2).isSome = true ∧ (numR w3).isSome = true := by
    refine ⟨?_, ?_, ?_, ?_⟩
    · exact Bool.eq_false_iff.2 fun h => hsm (hbad9 (.inl h))
    · exact Bool.of_not_eq_false fun h => hsm (hbad9 (.inr (.inl h)))
    · exact Bool.of_not_eq_false fun h => hsm (hbad9 (.inr (.inr (.inl h))))
    · exact Bool.of_not_eq_false fun h => hsm (hbad9 (.inr (.inr (.inr h))))
  obtain ⟨k0, k1, k2, k3⟩ := hall
  obtain ⟨x, hx⟩ := Option.isSome_iff_exists.1 k1
  obtain ⟨y, hy⟩ := Option.isSome_iff_exists.1 k2
  obtain ⟨v, hvv⟩ := Option.isSome_iff_exists.1 k3
  have hp : parP w0 = some p := by
    rcases hpe with ⟨hp, _⟩ | ⟨_, rfl⟩
    · exact hp
    · exact absurd k0 (by decide)
  have hen := hgd rfl hp hx hy hvv
  have heo := entR_ok hen
  simp only [hx, hy, hvv, Option.getD_some]
  clear hbad9 hgd hbd k0 k1 k2 k3 hsm h9
  refine Sat.skip ?_
  simp only [thenK]
  (repeat refine Sat.seq ?_)
  (refine Sat.region_k fun k hk => ?_; simp -implicitDefEqProofs only [evr, id, reduceCtorEq, reduceIte, Nat.reduceMul, Nat.reduceAdd, Nat.reduceLT, Nat.reduceLeDiff, Nat.reduceEqDiff, Int.reduceLT, Int.reduceBEq, Int.reduceBNe, Nat.reduceBEq, Int.reduceNeg, mkB_size, byteAt_mk, mkB_extract, mkB_append, mkB_toList, strsRd_at, tupL, empB, entS, Ent.cs, regS, prS, prC, numS, Int.reduceToNat, evn])
  intro b15
  (refine hk _ ?_; clear hk k; try show Sat _ _ _ _ _)
  obtain ⟨e, he⟩ : ∃ e : Ent, e = ⟨p.addr, p.len, x, y, v⟩ := ⟨_, rfl⟩
  rw [← he] at hen heo
  have g0 : p.addr = e.addr := by rw [he]
  have g1 : p.len = e.len := by rw [he]
  have g2 : (x : Int) = e.prov := by rw [he]
  have g3 : (y : Int) = e.from_ := by rw [he]
  have g4 : (v : Int) = e.to_ := by rw [he]
  simp only [g0, g1, g2, g3, g4]
  (repeat refine Sat.seq ?_)
  (refine Sat.region_k fun k hk => ?_; simp -implicitDefEqProofs only [evr, id, reduceCtorEq, reduceIte, Nat.reduceMul, Nat.reduceAdd, Nat.reduceLT, Nat.reduceLeDiff, Nat.reduceEqDiff, Int.reduceLT, Int.reduceBEq, Int.reduceBNe, Nat.reduceBEq, Int.reduceNeg, mkB_size, byteAt_mk, mkB_extract, mkB_append, mkB_toList, strsRd_at, tupL, empB, entS, Ent.cs, regS, prS, prC, numS, Int.reduceToNat, evn])
  refine wcall_plain (refEntryOkC FrB e heo) (by first | done | rfl) (by rintro _ rfl; exact ok_plain rfl) ?_
  rintro r rfl
  simp -implicitDefEqProofs only [evr, id, reduceCtorEq, reduceIte, Nat.reduceMul, Nat.reduceAdd, Nat.reduceLT, Nat.reduceLeDiff, Nat.reduceEqDiff, Int.reduceLT, Int.reduceBEq, Int.reduceBNe, Nat.reduceBEq, Int.reduceNeg, mkB_size, byteAt_mk, mkB_extract, mkB_append, mkB_toList, strsRd_at, tupL, empB, entS, Ent.cs, regS, prS, prC, numS, Int.reduceToNat, evn]
  (refine hk _ ?_; clear hk k; try show Sat _ _ _ _ _)
  (repeat refine Sat.seq ?_)
  refine Sat.cond_b rfl (fun h9 => ?_) (fun h9 => ?_)
  · have hno : ¬ EntOk e := by simpa using h9
    (repeat refine Sat.seq ?_)
    (refine Sat.region_k fun k hk => ?_; simp -implicitDefEqProofs only [evr, id, reduceCtorEq, reduceIte, Nat.reduceMul, Nat.reduceAdd, Nat.reduceLT, Nat.reduceLeDiff, Nat.reduceEqDiff, Int.reduceLT, Int.reduceBEq, Int.reduceBNe, Nat.reduceBEq, Int.reduceNeg, mkB_size, byteAt_mk, mkB_extract, mkB_append, mkB_toList, strsRd_at, tupL, empB, entS, Ent.cs, regS, prS, prC, numS, Int.reduceToNat, evn]; refine hk _ ?_; clear hk k; try show Sat _ _ _ _ _)
    refine Sat.ret ?_
    simp only [thenK, blockK, Tryz.results35, evr, id, reduceCtorEq, reduceIte, Nat.reduceMul, Nat.reduceAdd, Nat.reduceLT, Nat.reduceLeDiff, Nat.reduceEqDiff, Int.reduceLT, Int.reduceBEq, Int.reduceBNe, Nat.reduceBEq, List.append_nil, Int.toNat_zero, Nat.sub_self, Int.reduceNeg, mkB_size, byteAt_mk, mkB_extract, mkB_append, mkB_toList, strsRd_at, tupL, empB, entS, Ent.cs, regS, prS, prC, numS, Int.reduceToNat]
    exact .inl ⟨(n + 1 : Nat), 1, _, hv.trans (ho e hen hno), rfl⟩
  have hyes : EntOk e := by simpa using h9
  refine Sat.skip ?_
  simp only [thenK]
  refine Sat.region_k fun k hk => ?_
  simp -implicitDefEqProofs only [evr, id, reduceCtorEq, reduceIte, Nat.reduceMul, Nat.reduceAdd, Nat.reduceLT, Nat.reduceLeDiff, Nat.reduceEqDiff, Int.reduceLT, Int.reduceBEq, Int.reduceBNe, Nat.reduceBEq, Int.reduceNeg, mkB_size, byteAt_mk, mkB_extract, mkB_append, mkB_toList, strsRd_at, tupL, empB, entS, Ent.cs, regS, prS, prC, numS, Int.reduceToNat, evn]
  refine fun bl => ⟨⟨by unfold maxLen; omega, by omega⟩, fun a7 c7 => ?_⟩
  refine hk _ ?_
  simp only [thenK, blockK]
  refine ⟨(f, n + 1, rest, a7, c7, acc ++ [e]), ⟨hv.trans (hon e hen hyes), by simp only; omega, by simp only; omega, by simp; omega, fun x hx => ?_⟩, by simp only; omega, ?_⟩
  · rcases List.mem_append.1 hx with hx | hx
    · exact hok x hx
    · rw [List.mem_singleton.1 hx]; exact heo
  · have e7 : (acc ++ [e]).length = acc.length + 1 := by simp
    rw [e7]
    simp -implicitDefEqProofs only [evr, id, reduceCtorEq, reduceIte, Nat.reduceMul, Nat.reduceAdd, Nat.reduceLT, Nat.reduceLeDiff, Nat.reduceEqDiff, Int.reduceLT, Int.reduceBEq, Int.reduceBNe, Nat.reduceBEq, Int.reduceNeg, mkB_size, byteAt_mk, mkB_extract, mkB_append, mkB_toList, strsRd_at, tupL, empB, entS, Ent.cs, regS, prS, prC, numS, Int.reduceToNat, evl, evn]
    exact app_rd acc (entRd acc) (fun _ _ _ _ => rfl) e _ (fun q hq => by rcases (show q = 0 ∨ q = 1 ∨ q = 2 ∨ q = 3 ∨ q = 4 by omega) with rfl | rfl | rfl | rfl | rfl <;> rfl)
end Go.Proofs.YtepkbbmjbbnhnaaGreatDoor

/- The reference's Format of registries, by the evaluator. -/
set_option linter.unusedSimpArgs false
set_option linter.unusedVariables false
namespace Go.Proofs.YtepkbbmjbbnhnaaGreatDoor
open Go.RowKit Eng Go.Sort
theorem lit32 : (⟨#[32]⟩ : ByteArray) = mkB [32] := rfl
theorem lit10 : (⟨#[10]⟩ : ByteArray) = mkB [10] := rfl
theorem bytes_push : ∀ (l : List UInt8) (b : ByteArray), (l.map fun c => ((c.toNat : Nat) : Int)).foldl (fun r n => r.push (UInt8.ofNat n.toNat)) b = ⟨b.data ++ l.toArray⟩
  | [], b => by simp
  | c :: l, b => by
    rw [List.map_cons, List.foldl_cons, bytes_push l]
    apply WideShapes.bytes_inj
    simp [ByteArray.push]
theorem bytes_rd (l : List UInt8) : bytesOf ((List.range l.length).map fun i => Eng.intOf (bytesRd l i 0)) = mkB l := by
  have h : ((List.range l.length).map fun i => Eng.intOf (bytesRd l i 0)) = l.map fun c => ((c.toNat : Nat) : Int) := by
    apply List.ext_getElem
    · simp
    · intro i h1 h2
      simp only [List.length_map, List.length_range] at h1
      simp [bytesRd, Eng.intOf, List.getD, h1]
  rw [h]
  unfold bytesOf
  rw [bytes_push]
  apply WideShapes.bytes_inj
  simp [mkB]
set_option maxRecDepth 100000 in
theorem refFormatRC (ad : Option Addr) (cap : Nat) (es : List Ent) (h : esOk es) : Contract FrA Tryz.prog 33 [regS ad cap es] (fun r => r = tupL [sB (fmtV es).1, .i .i64 (fmtV es).2]) := by
  refine contract_of Tryz.func33 rfl (by kernel_rfl) ?_
  simp only [Tryz.ntmps33, argEnv, regS]
  (repeat refine Sat.seq ?_)
  (refine Sat.region_k fun k hk => ?_; simp -implicitDefEqProofs only [evr, id, reduceCtorEq, reduceIte, Nat.reduceMul, Nat.reduceAdd, Nat.reduceLT, Nat.reduceLeDiff, Nat.reduceEqDiff, Int.reduceLT, Int.reduceBEq, Int.reduceBNe, Nat.reduceBEq, Int.reduceNeg, mkB_size, mkB_append, mkB_list, mkB_toList, tupL, entS, Ent.cs, regS, ent0, ent1, ent2, ent3, ent4, lit32, lit10, evn])
  intro b1
  (refine hk _ ?_; clear hk k; try show Sat _ _ _ _ _)
  (repeat refine Sat.seq ?_)
  (refine Sat.region_k fun k hk => ?_; simp -implicitDefEqProofs only [evr, id, reduceCtorEq, reduceIte, Nat.reduceMul, Nat.reduceAdd, Nat.reduceLT, Nat.reduceLeDiff, Nat.reduceEqDiff, Int.reduceLT, Int.reduceBEq, Int.reduceBNe, Nat.reduceBEq, Int.reduceNeg, mkB_size, mkB_append, mkB_list, mkB_toList, tupL, entS, Ent.cs, regS, ent0, ent1, ent2, ent3, ent4, lit32, lit10, evn])
  refine wcall_plain (refRegValidC FrA ad cap es h) (by first | rfl | (simp -implicitDefEqProofs only [evr, id, reduceCtorEq, reduceIte, Nat.reduceMul, Nat.reduceAdd, Nat.reduceLT, Nat.reduceLeDiff, Nat.reduceEqDiff, Int.reduceLT, Int.reduceBEq, Int.reduceBNe, Nat.reduceBEq, Int.reduceNeg, mkB_size, mkB_append, mkB_list, mkB_toList, tupL, entS, Ent.cs, regS, ent0, ent1, ent2, ent3, ent4, lit32, lit10, evn]; rfl)) (by rintro _ rfl; exact ok_plain rfl) ?_
  rintro r rfl
  simp -implicitDefEqProofs only [evr, id, reduceCtorEq, reduceIte, Nat.reduceMul, Nat.reduceAdd, Nat.reduceLT, Nat.reduceLeDiff, Nat.reduceEqDiff, Int.reduceLT, Int.reduceBEq, Int.reduceBNe, Nat.reduceBEq, Int.reduceNeg, mkB_size, mkB_append, mkB_list, mkB_toList, tupL, entS, Ent.cs, regS, ent0, ent1, ent2, ent3, ent4, lit32, lit10, evn]
  (refine hk _ ?_; clear hk k; try show Sat _ _ _ _ _)
  refine Sat.cond_b rfl (fun h1 => ?_) (fun h1 => ?_)
  · simp only [Bool.not_eq_true', decide_eq_false_iff_not] at h1
    (repeat refine Sat.seq ?_)
    (refine Sat.region_k fun k hk => ?_; simp -implicitDefEqProofs only [evr, id, reduceCtorEq, reduceIte, Nat.reduceMul, Nat.reduceAdd, Nat.reduceLT, Nat.reduceLeDiff, Nat.reduceEqDiff, Int.reduceLT, Int.reduceBEq, Int.reduceBNe, Nat.reduceBEq, Int.reduceNeg, mkB_size, mkB_append, mkB_list, mkB_toList, tupL, entS, Ent.cs, regS, ent0, ent1, ent2, ent3, ent4, lit32, lit10, evn]; refine hk _ ?_; clear hk k; try show Sat _ _ _ _ _)
    refine Sat.ret ?_
    simp only [Tryz.results33, evr, id, reduceCtorEq, reduceIte, Nat.reduceMul, Nat.reduceAdd, Nat.reduceLT, Nat.reduceLeDiff, Nat.reduceEqDiff, Int.reduceLT, Int.reduceBEq, Int.reduceBNe, Nat.reduceBEq, List.append_nil, Int.toNat_zero, Nat.sub_self, Int.reduceNeg, mkB_size, mkB_append, mkB_list, mkB_toList, tupL, entS, Ent.cs, regS, ent0, ent1, ent2, ent3, ent4, lit32, lit10]
    unfold fmtV
    rw [if_neg h1]
    rfl
  simp only [Bool.not_eq_false', decide_eq_true_eq] at h1
  have hent : ∀ e ∈ es, EntOk e := h1.ent
  have hl1 := h1.1
  refine Sat.skip ?_
  simp only [thenK]
  (repeat refine Sat.seq ?_)
  (refine Sat.region_k fun k hk => ?_; simp -implicitDefEqProofs only [evr, id, reduceCtorEq, reduceIte, Nat.reduceMul, Nat.reduceAdd, Nat.reduceLT, Nat.reduceLeDiff, Nat.reduceEqDiff, Int.reduceLT, Int.reduceBEq, Int.reduceBNe, Nat.reduceBEq, Int.reduceNeg, mkB_size, mkB_append, mkB_list, mkB_toList, tupL, entS, Ent.cs, regS, ent0, ent1, ent2, ent3, ent4, lit32, lit10, evn]; refine hk _ ?_; clear hk k; try show Sat _ _ _ _ _)
  refine Sat.adopt 4 5 1 (bytesRd []) rfl ?_
  (repeat refine Sat.seq ?_)
  (refine Sat.region_k fun k hk => ?_; simp -implicitDefEqProofs only [evr, id, reduceCtorEq, reduceIte, Nat.reduceMul, Nat.reduceAdd, Nat.reduceLT, Nat.reduceLeDiff, Nat.reduceEqDiff, Int.reduceLT, Int.reduceBEq, Int.reduceBNe, Nat.reduceBEq, Int.reduceNeg, mkB_size, mkB_append, mkB_list, mkB_toList, tupL, entS, Ent.cs, regS, ent0, ent1, ent2, ent3, ent4, lit32, lit10, evn]; refine hk _ ?_; clear hk k; try show Sat _ _ _ _ _)
  (repeat refine Sat.seq ?_)
  refine Sat.block ?_
  refine Sat.loop (ι := Nat × Option Addr × Nat × List UInt8) (fun x => ⟨45, [(5, .i .i64 x.1), (4, .os 1 x.2.1 x.2.2.2.length x.2.2.1), (1, .op 0 b1 0)],
      [.box b1 25 [.sl ad es.length cap 5 (entRd es)], .row x.2.1 5 x.2.2.2.length x.2.2.1 1 (bytesRd x.2.2.2)]⟩)
    (fun x => x.1 ≤ es.length ∧ x.2.2.2 = fmtR (es.take x.1) ∧ (x.2.2.2 = [] → x.2.1 = none ∧ x.2.2.1 = 0)) (fun x => es.length - x.1) (0, none, 0, []) ⟨Nat.zero_le _, rfl, fun _ => ⟨rfl, rfl⟩⟩ (by simp -implicitDefEqProofs only [evr, id, reduceCtorEq, reduceIte, Nat.reduceMul, Nat.reduceAdd, Nat.reduceLT, Nat.reduceLeDiff, Nat.reduceEqDiff, Int.reduceLT, Int.reduceBEq, Int.reduceBNe, Nat.reduceBEq, Int.reduceNeg, mkB_size, mkB_append, mkB_list, mkB_toList, tupL, entS, Ent.cs, regS, ent0, ent1, ent2, ent3, ent4, lit32, lit10, evl, evn]; try rfl) ?_
  rintro ⟨i, a, c, l⟩ ⟨hi, hl, hnil⟩
  simp only at hi hl hnil ⊢
  have hlb : l.length ≤ 100 * es.length := by
    have := fmtR_len (es := es.take i) fun e he => hent e (List.mem_of_mem_take he)
    rw [List.length_take] at this
    rw [hl]; omega
  (repeat refine Sat.seq ?_)
  (refine Sat.region_k fun k hk => ?_; simp -implicitDefEqProofs only [evr, id, reduceCtorEq, reduceIte, Nat.reduceMul, Nat.reduceAdd, Nat.reduceLT, Nat.reduceLeDiff, Nat.reduceEqDiff, Int.reduceLT, Int.reduceBEq, Int.reduceBNe, Nat.reduceBEq, Int.reduceNeg, mkB_size, mkB_append, mkB_list, mkB_toList, tupL, entS, Ent.cs, regS, ent0, ent1, ent2, ent3, ent4, lit32, lit10, evn]; refine hk _ ?_; clear hk k; try show Sat _ _ _ _ _)
  (repeat refine Sat.seq ?_)
  refine Sat.cond_b rfl (fun h2 => ?_) (fun h2 => ?_)
  · simp only [decide_eq_true_eq] at h2
    have hlt : i < es.length := by omega
    have e1 : IntKind.i64.wrap ((i : Int) + 1) = ((i + 1 : Nat) : Int) := by rw [w64 (by omega)]; omega
    have htk := fmtR_take es i hlt
    have heo : EntOk (es.getD i default) := by rw [getD_lt hlt]; exact hent _ (List.getElem_mem _)
    have hex : eOk (es.getD i default) := esOk_at h i
    refine Sat.skip ?_
    simp only [thenK]
    (repeat refine Sat.seq ?_)
    refine Sat.block ?_
    (repeat refine Sat.seq ?_)
    (refine Sat.region_k fun k hk => ?_; simp -implicitDefEqProofs only [evr, id, reduceCtorEq, reduceIte, Nat.reduceMul, Nat.reduceAdd, Nat.reduceLT, Nat.reduceLeDiff, Nat.reduceEqDiff, Int.reduceLT, Int.reduceBEq, Int.reduceBNe, Nat.reduceBEq, Int.reduceNeg, mkB_size, mkB_append, mkB_list, mkB_toList, tupL, entS, Ent.cs, regS, ent0, ent1, ent2, ent3, ent4, lit32, lit10, evn])
    refine ⟨by omega, fun b6 => ?_⟩
    (refine hk _ ?_; clear hk k; try show Sat _ _ _ _ _)
    generalize es.getD i default = e at heo hex htk
    refine Sat.settleBox 6 rfl rfl ?_
    (repeat refine Sat.seq ?_)
    (refine Sat.region_rows [⟨0, 23, 16, 0⟩, ⟨0, 24, 64, 0⟩, ⟨2, 25, 8388608, 1⟩, ⟨4, 26, 16777216, 2⟩, ⟨8, 27, 33554432, 0⟩, ⟨0, 28, 64, 0⟩, ⟨32, 29, 134217728, 1⟩, ⟨72, 30, 268435456, 2⟩, ⟨144, 31, 603979776, 0⟩, ⟨256, 32, 1073741824, 0⟩, ⟨0, 33, 64, 0⟩, ⟨1024, 34, 4294967296, 1⟩, ⟨2176, 35, 8589934592, 2⟩, ⟨4608, 36, 19327352832, 0⟩, ⟨8192, 37, 34359738368, 0⟩, ⟨0, 38, 64, 0⟩, ⟨32768, 39, 137438953472, 1⟩, ⟨69632, 40, 274877906944, 2⟩, ⟨147456, 41, 618475290624, 0⟩, ⟨262144, 42, 1099511627776, 0⟩, ⟨655361, 43, 2199027449856, 2⟩, ⟨2097151, 5, 4398046511104, 0⟩] [0, 1, 5, 10, 15, 2, 6, 11, 16] [(3, false), (4, true), (7, false), (8, true), (9, true), (12, false), (13, true), (14, true), (17, false), (18, false), (19, false), (20, false), (21, false)] [3, 4, 7, 8, 9, 12, 13, 14] (by kernel_rfl) (by kernel_rfl) (fun _ _ h => h) fun k hk => ?_; simp only [List.map_cons, List.map_nil, List.getD_cons_zero, List.getD_cons_succ, btseq_cons, btseq_free, btseq_nil]; simp -implicitDefEqProofs only [evr, id, reduceCtorEq, reduceIte, Nat.reduceMul, Nat.reduceAdd, Nat.reduceLT, Nat.reduceLeDiff, Nat.reduceEqDiff, Int.reduceLT, Int.reduceBEq, Int.reduceBNe, Nat.reduceBEq, Int.reduceNeg, mkB_size, mkB_append, mkB_list, mkB_toList, tupL, entS, Ent.cs, regS, ent0, ent1, ent2, ent3, ent4, lit32, lit10, evn])
    have kP := rfFormatPrefixC FrA e.pr hex
    have q0 : -9223372036854775808 ≤ e.prov ∧ e.prov ≤ 9223372036854775807 := by have := heo.2.1; have := heo.2.2.1; omega
    have q1 : -9223372036854775808 ≤ e.from_ ∧ e.from_ ≤ 9223372036854775807 := by have := heo.2.2.2.1; have := heo.2.2.2.2.1; have := heo.2.2.2.2.2; omega
    have q2 : -9223372036854775808 ≤ e.to_ ∧ e.to_ ≤ 9223372036854775807 := by have := heo.2.2.2.1; have := heo.2.2.2.2.1; have := heo.2.2.2.2.2; omega
    have k0 := itoaC e.prov q0.1 q0.2
    have k1 := itoaC e.from_ q1.1 q1.2
    have k2 := itoaC e.to_ q2.1 q2.2
    have z0 := (itoa_len (n := e.prov) (by have := heo.2.1; omega) (by have := heo.2.2.1; omega)).1
    have z1 := (itoa_len (n := e.from_) heo.2.2.2.1 (by have := heo.2.2.2.2; omega)).1
    have z2 := (itoa_len (n := e.to_) (by have := heo.2.2.2; omega) heo.2.2.2.2.2).1
    have z3 := fmtP_len e.pr
    have hfe : fmtE e = fmtP e.pr ++ 32 :: (Lib.itoa e.prov ++ 32 :: (Lib.itoa e.from_ ++ 32 :: (Lib.itoa e.to_ ++ [10]))) := by
      unfold fmtE fmtN
      simp [List.append_assoc]
    rw [hfe] at htk
    clear hfe
    generalize fmtP e.pr = f0 at *
    generalize Lib.itoa e.prov = f1 at *
    generalize Lib.itoa e.from_ = f2 at *
    generalize Lib.itoa e.to_ = f3 at *
    have c1 := cat_lim (a := f0.length) (b := 1) (by omega)
    have c2 := cat_lim (a := (f0 ++ [32]).length) (b := f1.length) (by simp only [List.length_append, List.length_cons, List.length_nil]; omega)
    have c3 := cat_lim (a := (f0 ++ 32 :: f1).length) (b := 1) (by simp only [List.length_append, List.length_cons, List.length_nil]; omega)
    have c4 := cat_lim (a := (f0 ++ 32 :: (f1 ++ [32])).length) (b := f2.length) (by simp only [List.length_append, List.length_cons, List.length_nil]; omega)
    have c5 := cat_lim (a := (f0 ++ 32 :: (f1 ++ 32 :: f2)).length) (b := 1) (by simp only [List.length_append, List.length_cons, List.length_nil]; omega)
    have c6 := cat_lim (a := (f0 ++ 32 :: (f1 ++ 32 :: (f2 ++ [32]))).length) (b := f3.length) (by simp only [List.length_append, List.length_cons, List.length_nil]; omega)
    have c7 := cat_lim (a := (f0 ++ 32 :: (f1 ++ 32 :: (f2 ++ 32 :: f3))).length) (b := 1) (by simp only [List.length_append, List.length_cons, List.length_nil]; omega)
    have hfl : (f0 ++ 32 :: (f1 ++ 32 :: (f2 ++ 32 :: (f3 ++ [10])))).length ≤ 200 ∧ 0 < (f0 ++ 32 :: (f1 ++ 32 :: (f2 ++ 32 :: (f3 ++ [10])))).length := by simp only [List.length_append, List.length_cons, List.length_nil]; omega
    refine wcall_plain (kP.of_sim (ent_pr e)) (by simp -implicitDefEqProofs only [evr, id, reduceCtorEq, reduceIte, Nat.reduceMul, Nat.reduceAdd, Nat.reduceLT, Nat.reduceLeDiff, Nat.reduceEqDiff, Int.reduceLT, Int.reduceBEq, Int.reduceBNe, Nat.reduceBEq, Int.reduceNeg, mkB_size, mkB_append, mkB_list, mkB_toList, tupL, entS, Ent.cs, regS, ent0, ent1, ent2, ent3, ent4, lit32, lit10, evn]) (by rintro _ rfl; exact ok_plain rfl) ?_
    rintro r rfl
    simp -implicitDefEqProofs only [evr, id, reduceCtorEq, reduceIte, Nat.reduceMul, Nat.reduceAdd, Nat.reduceLT, Nat.reduceLeDiff, Nat.reduceEqDiff, Int.reduceLT, Int.reduceBEq, Int.reduceBNe, Nat.reduceBEq, Int.reduceNeg, mkB_size, mkB_append, mkB_list, mkB_toList, tupL, entS, Ent.cs, regS, ent0, ent1, ent2, ent3, ent4, lit32, lit10, c1, c2, c3, c4, c5, c6, c7, List.take_succ_cons, List.take_zero, eq_self, true_and, evn]
    refine wcall_plain k0 (by first | done | rfl) (by rintro _ rfl; exact ok_plain rfl) ?_
    rintro r rfl
    simp -implicitDefEqProofs only [evr, id, reduceCtorEq, reduceIte, Nat.reduceMul, Nat.reduceAdd, Nat.reduceLT, Nat.reduceLeDiff, Nat.reduceEqDiff, Int.reduceLT, Int.reduceBEq, Int.reduceBNe, Nat.reduceBEq, Int.reduceNeg, mkB_size, mkB_append, mkB_list, mkB_toList, tupL, entS, Ent.cs, regS, ent0, ent1, ent2, ent3, ent4, lit32, lit10, c1, c2, c3, c4, c5, c6, c7, List.take_succ_cons, List.take_zero, eq_self, true_and, evn]
    refine wcall_plain k1 (by first | done | rfl) (by rintro _ rfl; exact ok_plain rfl) ?_
    rintro r rfl
    simp -implicitDefEqProofs only [evr, id, reduceCtorEq, reduceIte, Nat.reduceMul, Nat.reduceAdd, Nat.reduceLT, Nat.reduceLeDiff, Nat.reduceEqDiff, Int.reduceLT, Int.reduceBEq, Int.reduceBNe, Nat.reduceBEq, Int.reduceNeg, mkB_size, mkB_append, mkB_list, mkB_toList, tupL, entS, Ent.cs, regS, ent0, ent1, ent2, ent3, ent4, lit32, lit10, c1, c2, c3, c4, c5, c6, c7, List.take_succ_cons, List.take_zero, eq_self, true_and, evn]
    refine wcall_plain k2 (by first | done | rfl) (by rintro _ rfl; exact ok_plain rfl) ?_
    rintro r rfl
    simp -implicitDefEqProofs only [evr, id, reduceCtorEq, reduceIte, Nat.reduceMul, Nat.reduceAdd, Nat.reduceLT, Nat.reduceLeDiff, Nat.reduceEqDiff, Int.reduceLT, Int.reduceBEq, Int.reduceBNe, Nat.reduceBEq, Int.reduceNeg, mkB_size, mkB_append, mkB_list, mkB_toList, tupL, entS, Ent.cs, regS, ent0, ent1, ent2, ent3, ent4, lit32, lit10, c1, c2, c3, c4, c5, c6, c7, List.take_succ_cons, List.take_zero, eq_self, true_and, evn]
    generalize f0 ++ 32 :: (f1 ++ 32 :: (f2 ++ 32 :: (f3 ++ [10]))) = fl at *
    refine str_append (e := 5) (len := l.length) (cap := c) (a := a) (rd := bytesRd l) (s := mkB fl) (show (42 : Nat) < 45 by decide) (by simp -implicitDefEqProofs only [evr, id, reduceCtorEq, reduceIte, Nat.reduceMul, Nat.reduceAdd, Nat.reduceLT, Nat.reduceLeDiff, Nat.reduceEqDiff, Int.reduceLT, Int.reduceBEq, Int.reduceBNe, Nat.reduceBEq, Int.reduceNeg, mkB_size, mkB_append, mkB_list, mkB_toList, tupL, entS, Ent.cs, regS, ent0, ent1, ent2, ent3, ent4, lit32, lit10, evn]) (by simp -implicitDefEqProofs only [evr, id, reduceCtorEq, reduceIte, Nat.reduceMul, Nat.reduceAdd, Nat.reduceLT, Nat.reduceLeDiff, Nat.reduceEqDiff, Int.reduceLT, Int.reduceBEq, Int.reduceBNe, Nat.reduceBEq, Int.reduceNeg, mkB_size, mkB_append, mkB_list, mkB_toList, tupL, entS, Ent.cs, regS, ent0, ent1, ent2, ent3, ent4, lit32, lit10, evn]) ⟨_, rfl, rfl, rfl, rfl⟩ rfl rfl rfl (by rw [mkB_size]; omega) (by rw [mkB_size]; omega) fun a2 c2 => ?_
    simp -implicitDefEqProofs only [evr, id, reduceCtorEq, reduceIte, Nat.reduceMul, Nat.reduceAdd, Nat.reduceLT, Nat.reduceLeDiff, Nat.reduceEqDiff, Int.reduceLT, Int.reduceBEq, Int.reduceBNe, Nat.reduceBEq, Int.reduceNeg, mkB_size, mkB_append, mkB_list, mkB_toList, tupL, entS, Ent.cs, regS, ent0, ent1, ent2, ent3, ent4, lit32, lit10, evn]
    refine hk _ ?_
    simp only [thenK, blockK]
    refine Sat.region_k fun k hk => ?_
    simp -implicitDefEqProofs only [evr, id, reduceCtorEq, reduceIte, Nat.reduceMul, Nat.reduceAdd, Nat.reduceLT, Nat.reduceLeDiff, Nat.reduceEqDiff, Int.reduceLT, Int.reduceBEq, Int.reduceBNe, Nat.reduceBEq, Int.reduceNeg, mkB_size, mkB_append, mkB_list, mkB_toList, tupL, entS, Ent.cs, regS, ent0, ent1, ent2, ent3, ent4, lit32, lit10, e1, evn]
    refine hk _ ?_
    simp only [thenK, blockK]
    refine ⟨(i + 1, a2, c2, l ++ fl), ⟨by simp only; omega, by simp only; rw [htk, hl], fun h9 => ?_⟩, by simp only; omega, ?_⟩
    · have : (l ++ fl).length = 0 := by rw [show l ++ fl = [] from h9]; rfl
      rw [List.length_append] at this
      omega
    · have e7 : (l ++ fl).length = l.length + fl.length := by simp
      rw [e7, ← bytes_cat l fl]
      simp -implicitDefEqProofs only [evr, id, reduceCtorEq, reduceIte, Nat.reduceMul, Nat.reduceAdd, Nat.reduceLT, Nat.reduceLeDiff, Nat.reduceEqDiff, Int.reduceLT, Int.reduceBEq, Int.reduceBNe, Nat.reduceBEq, Int.reduceNeg, mkB_size, mkB_append, mkB_list, mkB_toList, tupL, entS, Ent.cs, regS, ent0, ent1, ent2, ent3, ent4, lit32, lit10, evl, evn]
      try rfl
  · simp only [decide_eq_false_iff_not] at h2
    obtain rfl : i = es.length := by omega
    rw [List.take_length] at hl
    refine Sat.exit ?_
    simp only [thenK, blockK, reduceIte]
    (repeat refine Sat.seq ?_)
    (refine Sat.region_k fun k hk => ?_; simp -implicitDefEqProofs only [evr, id, reduceCtorEq, reduceIte, Nat.reduceMul, Nat.reduceAdd, Nat.reduceLT, Nat.reduceLeDiff, Nat.reduceEqDiff, Int.reduceLT, Int.reduceBEq, Int.reduceBNe, Nat.reduceBEq, Int.reduceNeg, mkB_size, mkB_append, mkB_list, mkB_toList, tupL, entS, Ent.cs, regS, ent0, ent1, ent2, ent3, ent4, lit32, lit10, evn])
    refine ⟨fun i _ => ⟨_, rfl⟩, ?_⟩
    (refine hk _ ?_; clear hk k; try show Sat _ _ _ _ _)
    refine Sat.ret ?_
    simp only [Tryz.results33, evr, id, reduceCtorEq, reduceIte, Nat.reduceMul, Nat.reduceAdd, Nat.reduceLT, Nat.reduceLeDiff, Nat.reduceEqDiff, Int.reduceLT, Int.reduceBEq, Int.reduceBNe, Nat.reduceBEq, List.append_nil, Int.toNat_zero, Nat.sub_self, Int.reduceNeg, mkB_size, mkB_append, mkB_list, mkB_toList, tupL, entS, Ent.cs, regS, ent0, ent1, ent2, ent3, ent4, lit32, lit10]
    unfold fmtV
    rw [if_pos h1, bytes_rd, hl]
end Go.Proofs.YtepkbbmjbbnhnaaGreatDoor

/- Registries come back from their texts (no program in sight). -/
set_option linter.unusedSimpArgs false
set_option linter.unusedVariables false
namespace Go.Proofs.YtepkbbmjbbnhnaaGreatDoor
open Eng
theorem dd_small {u : Nat} (h : u < 10) : Lib.decDigits u = [UInt8.ofNat (48 + u)] := Lib.decDigits_one h
theorem dd_big {u : Nat} (h : ¬ u < 10) : Lib.decDigits u = Lib.decDigits (u / 10) ++ [UInt8.ofNat (48 + u % 10)] := by rw [Lib.decDigits, dif_neg h]
theorem dig_nat {d : Nat} (h : d < 10) : (UInt8.ofNat (48 + d)).toNat = 48 + d := by rw [UInt8.toNat_ofNat']; omega
theorem dig_is {d : Nat} (h : d < 10) : isDig (UInt8.ofNat (48 + d)) = true := by
  unfold isDig
  rw [dig_nat h]
  simp only [Bool.and_eq_true, decide_eq_true_eq]
  omega
theorem dd_all (u : Nat) : (Lib.decDigits u).all isDig = true := by
  induction u using Nat.strongRecOn with
  | ind u ih =>
    by_cases h : u < 10
    · rw [dd_small h]
      simp only [List.all_cons, List.all_nil, Bool.and_true]
      exact dig_is h
    · rw [dd_big h, List.all_append, ih (u / 10) (by omega)]
      simp only [List.all_cons, List.all_nil, Bool.and_true, Bool.true_and]
      exact dig_is (by omega)
theorem dd_val (u : Nat) : digV (Lib.decDigits u) = u := by
  induction u using Nat.strongRecOn with
  | ind u ih =>
    by_cases h : u < 10
    · rw [dd_small h]
      show 10 * 0 + ((UInt8.ofNat (48 + u)).toNat - 48) = u
      rw [dig_nat h]
      omega
    · rw [dd_big h, digV_snoc, ih (u / 10) (by omega), dig_nat (by omega)]
      omega
theorem dd_len (k : Nat) : ∀ u, u < 10 ^ (k + 1) → 0 < (Lib.decDigits u).length ∧ (Lib.decDigits u).length ≤ k + 1 := by
  induction k with
  | zero =>
    intro u h
    rw [dd_small (by simpa using h)]
    simp
  | succ k ih =>
    intro u h
    by_cases h1 : u < 10
    · rw [dd_small h1]; simp
    · rw [dd_big h1, List.length_append, List.length_singleton]
      have := ih (u / 10) (by
        rw [Nat.pow_succ] at h
        omega)
      omega
theorem dd_head (u : Nat) : 0 < u → (Lib.decDigits u).getD 0 0 ≠ 48 := by
  induction u using Nat.strongRecOn with
  | ind u ih =>
    intro h0
    by_cases h : u < 10
    · rw [dd_small h]
      intro h9
      have h8 : (UInt8.ofNat (48 + u)).toNat = 48 := by
        have : UInt8.ofNat (48 + u) = 48 := h9
        rw [this]; rfl
      rw [dig_nat h] at h8
      omega
    · rw [dd_big h]
      have h1 := ih (u / 10) (by omega) (by omega)
      have hne : Lib.decDigits (u / 10) ≠ [] := by
        intro h9
        rw [h9] at h1
        by_cases h10 : u / 10 < 10
        · rw [dd_small h10] at h9; cases h9
        · rw [dd_big h10] at h9; simp at h9
      cases h2 : Lib.decDigits (u / 10) with
      | nil => exact absurd h2 hne
      | cons c l =>
        rw [h2] at h1
        exact h1
theorem numR_dd {u : Nat} (h : u < 10 ^ 18) : numR (Lib.decDigits u) = some u := by
  obtain ⟨h1, h2⟩ := dd_len 17 u h
  have h3 : (Lib.decDigits u).length = 1 ∨ (Lib.decDigits u).getD 0 0 ≠ 48 := by
    rcases Nat.eq_zero_or_pos u with h0 | h0
    · left
      rw [h0, dd_small (by decide)]
      rfl
    · exact .inr (dd_head u h0)
  unfold numR
  rw [if_pos ⟨digB_of (dd_all u) h1 h3, h2⟩, dd_val]
theorem dd_free (u : Nat) (c : UInt8) (hc : c.toNat < 48) : ∀ x ∈ Lib.decDigits u, x ≠ c := fun x hx e => by
  have := List.all_eq_true.1 (dd_all u) x hx
  unfold isDig at this
  simp only [Bool.and_eq_true, decide_eq_true_eq] at this
  rw [e] at this
  omega
theorem fmtB_free (a : Nat) (c : UInt8) (hc : c.toNat < 46) : ∀ x ∈ fmtB a, x ≠ c := by
  intro x hx
  have h46 : (46 : UInt8) ≠ c := by rintro rfl; exact absurd hc (by decide)
  unfold fmtB at hx
  simp only [List.mem_append, List.mem_cons] at hx
  rcases hx with h | h | h | h | h | h | h
  · exact dd_free _ c (by omega) x h
  · subst h; exact h46
  · exact dd_free _ c (by omega) x h
  · subst h; exact h46
  · exact dd_free _ c (by omega) x h
  · subst h; exact h46
  · exact dd_free _ c (by omega) x h
theorem fmtP_free (p : Prf) (c : UInt8) (hc : c.toNat < 46) : ∀ x ∈ fmtP p, x ≠ c := by
  intro x hx
  have h47 : (47 : UInt8) ≠ c := by rintro rfl; exact absurd hc (by decide)
  unfold fmtP at hx
  split at hx
  · simp only [List.mem_append, List.mem_cons] at hx
    rcases hx with h | h | h
    · exact fmtB_free _ c hc x h
    · subst h; exact h47
    · exact dd_free _ c (by omega) x h
  · cases hx
def bodyE (e : Ent) : List UInt8 := fmtP e.pr ++ 32 :: (Lib.itoa e.prov ++ 32 :: (Lib.itoa e.from_ ++ 32 :: Lib.itoa e.to_))
theorem fmtE_body (e : Ent) : fmtE e = bodyE e ++ [10] := by
  unfold fmtE fmtN bodyE
  simp [List.append_assoc]
theorem itoa_dd {n : Int} (h : 0 ≤ n) : Lib.itoa n = Lib.decDigits n.toNat := by unfold Lib.itoa; rw [if_neg (by omega)]
theorem body_ent {e : Ent} (h : EntOk e) (he : eOk e) : entR (bodyE e) = some e := by
  obtain ⟨h0, h1, h2, h3, h4, h5⟩ := h
  unfold bodyE
  rw [itoa_dd (n := e.prov) (by omega), itoa_dd (n := e.from_) (by omega), itoa_dd (n := e.to_) (by omega)]
  have hs : splitB 32 (fmtP e.pr ++ 32 :: (Lib.decDigits e.prov.toNat ++ 32 :: (Lib.decDigits e.from_.toNat ++ 32 :: Lib.decDigits e.to_.toNat))) = [fmtP e.pr, Lib.decDigits e.prov.toNat, Lib.decDigits e.from_.toNat, Lib.decDigits e.to_.toNat] := by
    rw [splitB_app 32 _ _ (fmtP_free e.pr 32 (by decide)), splitB_app 32 _ _ (dd_free _ 32 (by decide)), splitB_app 32 _ _ (dd_free _ 32 (by decide)), splitB_none 32 _ (dd_free _ 32 (by decide))]
  rw [entR_good hs (parP_fmtP he h0) (numR_dd (u := e.prov.toNat) (by omega)) (numR_dd (u := e.from_.toNat) (by omega)) (numR_dd (u := e.to_.toNat) (by omega))]
  obtain ⟨a, l, p, f, t⟩ := e
  simp only [Option.some.injEq, Ent.mk.injEq]
  simp only at h1 h2 h3 h4 h5
  refine ⟨rfl, rfl, ?_, ?_, ?_⟩ <;> omega
theorem body_free (e : Ent) (h : EntOk e) : ∀ x ∈ bodyE e, x ≠ 10 := by
  obtain ⟨h0, h1, h2, h3, h4, h5⟩ := h
  intro x hx
  unfold bodyE at hx
  rw [itoa_dd (n := e.prov) (by omega), itoa_dd (n := e.from_) (by omega), itoa_dd (n := e.to_) (by omega)] at hx
  simp only [List.mem_append, List.mem_cons] at hx
  rcases hx with h | h | h | h | h | h | h
  · exact fmtP_free e.pr 10 (by decide) x h
  · subst h; decide
  · exact dd_free _ 10 (by decide) x h
  · subst h; decide
  · exact dd_free _ 10 (by decide) x h
  · subst h; decide
  · exact dd_free _ 10 (by decide) x h
theorem index_at (c : UInt8) (r : List UInt8) : ∀ l : List UInt8, (∀ x ∈ l, x ≠ c) → Lib.indexByte (l ++ c :: r) c = (l.length : Int)
  | [], _ => by simp [Lib.indexByte]
  | x :: l, h => by
    have ih := index_at c r l fun y hy => h y (List.mem_cons_of_mem _ hy)
    have hx : (x == c) = false := beq_eq_false_iff_ne.2 (h x List.mem_cons_self)
    show (if (x == c) = true then (0 : Int) else if (Lib.indexByte (l ++ c :: r) c == -1) = true then -1 else Lib.indexByte (l ++ c :: r) c + 1) = _
    rw [hx, ih]
    have hn : (((l.length : Nat) : Int) == -1) = false := beq_eq_false_iff_ne.2 (by omega)
    rw [hn]
    simp
theorem parG_fmt : ∀ (es : List Ent), (∀ e ∈ es, EntOk e ∧ eOk e) → ∀ (f n : Nat) (acc : List Ent), (fmtR es).length < f → parG f n (fmtR es) acc = if RegOk (acc ++ es) then (acc ++ es, 0, 0) else ([], 0, 1)
  | [], _, f, n, acc, hf => by
    obtain ⟨g, rfl⟩ : ∃ g, f = g + 1 := ⟨f - 1, by omega⟩
    rw [parG_end (by rfl), List.append_nil]
  | e :: es, h, f, n, acc, hf => by
    obtain ⟨g, rfl⟩ : ∃ g, f = g + 1 := ⟨f - 1, by omega⟩
    obtain ⟨h1, h2⟩ := h e List.mem_cons_self
    have hfm : fmtR (e :: es) = bodyE e ++ 10 :: fmtR es := by
      unfold fmtR
      rw [List.flatMap_cons, fmtE_body]
      simp [List.append_assoc]
    rw [hfm] at hf ⊢
    have hi := index_at 10 (fmtR es) (bodyE e) (body_free e h1)
    have htk : (bodyE e ++ 10 :: fmtR es).take (bodyE e).length = bodyE e := List.take_left
    have hdr : (bodyE e ++ 10 :: fmtR es).drop ((bodyE e).length + 1) = fmtR es := by
      rw [← List.drop_drop, List.drop_left]
      rfl
    rw [parG_on (by simp) hi (by rw [htk]; exact body_ent h1 h2) h1, hdr]
    rw [parG_fmt es (fun x hx => h x (List.mem_cons_of_mem _ hx)) g (n + 1) (acc ++ [e]) (by
      simp only [List.length_append, List.length_cons] at hf
      omega), List.append_assoc]
    rfl
theorem parV_fmt {es : List Ent} (h : RegOk es) (ho : esOk es) (hl : es.length ≤ 600) : parV (fmtR es) = (es, 0, 0) := by
  have h1 := fmtR_len h.ent
  unfold parV
  rw [if_pos (by omega), parG_fmt es (fun e he => ⟨h.ent e he, ho e he⟩) _ 1 [] (Nat.lt_succ_self _), List.nil_append, if_pos h]
end Go.Proofs.YtepkbbmjbbnhnaaGreatDoor

/- The reference of law 32: Same, by the evaluator. -/
set_option linter.unusedSimpArgs false
set_option linter.unusedVariables false
namespace Go.Proofs.YtepkbbmjbbnhnaaGreatDoor
open Go.Sort Eng
def entB (x y : Ent) : Bool := [[(x.addr : Int) == y.addr, x.len == y.len].all id, x.prov == y.prov, x.from_ == y.from_, x.to_ == y.to_].all id
theorem entB_iff {x y : Ent} : entB x y = true ↔ x = y := by
  obtain ⟨a, b, c, d, e⟩ := x
  obtain ⟨a', b', c', d', e'⟩ := y
  unfold entB
  simp only [List.all_cons, List.all_nil, id, Bool.and_true, Bool.and_eq_true, beq_iff_eq, Ent.mk.injEq]
  omega
theorem ent_eqA (es fs : List Ent) (i j : Nat) : aggEq Tryz.prog 31 5 (fun p => entRd es i p) 5 (fun p => entRd fs j p) = some (entB (es.getD i default) (fs.getD j default)) := by kernel_rfl
set_option maxRecDepth 100000 in
theorem refSameC (F : Frm) (ad ad' : Option Addr) (cap cap' : Nat) (es fs : List Ent) (hn : es.length ≤ 1000000) :
    Contract F Tryz.prog 25 [regS ad cap es, regS ad' cap' fs] (fun r => r = .b (decide (es = fs))) := by
  refine contract_of Tryz.func25 rfl (by kernel_rfl) ?_
  simp only [Tryz.ntmps25, argEnv, regS]
  (repeat refine Sat.seq ?_)
  (refine Sat.region_k fun k hk => ?_; simp -implicitDefEqProofs only [evr, id, seval, Nat.sub_zero, Option.map_none, ent0, ent1, ent2, ent3, ent4, ent_eqA, evn])
  intro b2 b3
  (refine hk _ ?_; clear hk k; try show Sat _ _ _ _ _)
  (repeat refine Sat.seq ?_)
  (refine Sat.region_k fun k hk => ?_; simp -implicitDefEqProofs only [evr, id, seval, Nat.sub_zero, Option.map_none, ent0, ent1, ent2, ent3, ent4, ent_eqA, evn]; refine hk _ ?_; clear hk k; try show Sat _ _ _ _ _)
  (repeat refine Sat.seq ?_)
  refine Sat.cond_b rfl (fun h => ?_) (fun h => ?_)
  · (repeat refine Sat.seq ?_)
    (refine Sat.region_k fun k hk => ?_; simp -implicitDefEqProofs only [evr, id, seval, Nat.sub_zero, Option.map_none, ent0, ent1, ent2, ent3, ent4, ent_eqA, evn]; refine hk _ ?_; clear hk k; try show Sat _ _ _ _ _)
    refine Sat.ret ?_
    simp only [Tryz.results25, evr, id, seval, List.append_nil, Int.toNat_zero, Nat.sub_self, Nat.sub_zero, Option.map_none, ent0, ent1, ent2, ent3, ent4, ent_eqA]
    have hne : ¬ es = fs := fun e => by simp [e] at h
    rw [decide_eq_false hne]
  · have hlen : es.length = fs.length := by
      have : (es.length : Int) = fs.length := by simpa using h
      omega
    refine Sat.skip ?_
    simp only [thenK]
    (repeat refine Sat.seq ?_)
    (refine Sat.region_k fun k hk => ?_; simp -implicitDefEqProofs only [evr, id, seval, Nat.sub_zero, Option.map_none, ent0, ent1, ent2, ent3, ent4, ent_eqA, evn]; refine hk _ ?_; clear hk k; try show Sat _ _ _ _ _)
    (repeat refine Sat.seq ?_)
    refine Sat.block ?_
    refine Sat.loop (ι := Nat) (fun i => ⟨31, [(5, .i .i64 i), (2, .op 0 b2 0), (3, .op 1 b3 0)], [.box b2 25 [.sl ad es.length cap 5 (entRd es)], .box b3 25 [.sl ad' fs.length cap' 5 (entRd fs)]]⟩)
      (fun i => i ≤ es.length ∧ ∀ j, j < i → es.getD j default = fs.getD j default) (fun i => es.length - i) 0 ⟨Nat.zero_le _, fun j hj => absurd hj (Nat.not_lt_zero _)⟩ (by simp -implicitDefEqProofs only [evr, id, seval, Nat.sub_zero, Option.map_none, ent0, ent1, ent2, ent3, ent4, ent_eqA, evl, evn]; done) ?_
    rintro i ⟨hi, hz⟩
    (repeat refine Sat.seq ?_)
    (refine Sat.region_k fun k hk => ?_; simp -implicitDefEqProofs only [evr, id, seval, Nat.sub_zero, Option.map_none, ent0, ent1, ent2, ent3, ent4, ent_eqA, evn]; refine hk _ ?_; clear hk k; try show Sat _ _ _ _ _)
    (repeat refine Sat.seq ?_)
    refine Sat.cond_b rfl (fun h2 => ?_) (fun h2 => ?_)
    · simp only [decide_eq_true_eq] at h2
      have hlt : i < es.length := by omega
      refine Sat.skip ?_
      simp only [thenK]
      (repeat refine Sat.seq ?_)
      refine Sat.block ?_
      (repeat refine Sat.seq ?_)
      (refine Sat.region_rows [⟨0, 21, 4, 0⟩, ⟨1, 22, 1048576, 1⟩, ⟨0, 23, 32, 0⟩, ⟨6, 24, 6291456, 0⟩, ⟨8, 25, 8388608, 1⟩, ⟨0, 26, 8, 0⟩, ⟨32, 27, 33554432, 1⟩, ⟨0, 28, 32, 0⟩, ⟨192, 29, 201326592, 0⟩, ⟨256, 30, 268435456, 1⟩, ⟨528, 31, 553648128, 0⟩] [0, 2, 5, 7, 1, 6, 3, 8, 4, 9, 10] [] [] (by kernel_rfl) (by kernel_rfl) (fun _ _ h => h) fun k hk => ?_; simp only [List.map_cons, List.map_nil, List.getD_cons_zero, List.getD_cons_succ, btseq_cons, btseq_free, btseq_nil]; simp -implicitDefEqProofs only [evr, id, seval, Nat.sub_zero, Option.map_none, ent0, ent1, ent2, ent3, ent4, ent_eqA, evn])
      refine ⟨by omega, by omega, ?_⟩
      (refine hk _ ?_; clear hk k; try show Sat _ _ _ _ _)
      (repeat refine Sat.seq ?_)
      refine Sat.cond_b rfl (fun h3 => ?_) (fun h3 => ?_)
      · have h4 : ¬ es.getD i default = fs.getD i default := fun e => by
          rw [entB_iff.2 e] at h3
          cases h3
        (repeat refine Sat.seq ?_)
        (refine Sat.region_k fun k hk => ?_; simp -implicitDefEqProofs only [evr, id, seval, Nat.sub_zero, Option.map_none, ent0, ent1, ent2, ent3, ent4, ent_eqA, evn]; refine hk _ ?_; clear hk k; try show Sat _ _ _ _ _)
        refine Sat.ret ?_
        simp only [thenK, blockK, Tryz.results25, evr, id, seval, List.append_nil, Int.toNat_zero, Nat.sub_self, Nat.sub_zero, Option.map_none, ent0, ent1, ent2, ent3, ent4, ent_eqA]
        rw [decide_eq_false (fun e => h4 (by rw [e]))]
      · have h4 : es.getD i default = fs.getD i default := entB_iff.1 (by simpa using h3)
        refine Sat.skip ?_
        simp only [thenK, blockK, reduceIte]
        refine Sat.region_k fun k hk => ?_
        simp -implicitDefEqProofs only [evr, id, seval, Nat.sub_zero, Option.map_none, ent0, ent1, ent2, ent3, ent4, ent_eqA, evn]
        have e1 : IntKind.i64.wrap ((i : Int) + 1) = ((i + 1 : Nat) : Int) := by rw [w64 (by omega)]; omega
        rw [e1]
        refine hk _ ?_
        simp only [thenK, blockK]
        refine ⟨i + 1, ⟨by omega, fun j hj => ?_⟩, by omega, ?_⟩
        · rcases (show j = i ∨ j < i by omega) with rfl | h6
          · exact h4
          · exact hz j h6
        · simp -implicitDefEqProofs only [evr, id, seval, Nat.sub_zero, Option.map_none, ent0, ent1, ent2, ent3, ent4, ent_eqA, evl, evn]
    · simp only [decide_eq_false_iff_not] at h2
      obtain rfl : i = es.length := by omega
      refine Sat.exit ?_
      simp only [thenK, blockK, reduceIte]
      (repeat refine Sat.seq ?_)
      (refine Sat.region_k fun k hk => ?_; simp -implicitDefEqProofs only [evr, id, seval, Nat.sub_zero, Option.map_none, ent0, ent1, ent2, ent3, ent4, ent_eqA, evn]; refine hk _ ?_; clear hk k; try show Sat _ _ _ _ _)
      refine Sat.ret ?_
      simp only [Tryz.results25, evr, id, seval, List.append_nil, Int.toNat_zero, Nat.sub_self, Nat.sub_zero, Option.map_none, ent0, ent1, ent2, ent3, ent4, ent_eqA]
      have e9 : es = fs := List.ext_getElem hlen fun j h5 h6 => by
        have := hz j h5
        rwa [getD_lt h5, getD_lt h6] at this
      rw [decide_eq_true e9]
end Go.Proofs.YtepkbbmjbbnhnaaGreatDoor

/- What RegistryLongest asks of the entry that is found (no program in sight). -/
set_option linter.unusedSimpArgs false
set_option linter.unusedVariables false
namespace Go.Proofs.YtepkbbmjbbnhnaaGreatDoor
open Eng
def anyB (a : Nat) (t : Int) (es : List Ent) (i : Nat) : Bool := (es.take i).any (applies a t)
theorem anyB_step {a : Nat} {t : Int} {es : List Ent} {i : Nat} (h : i < es.length) : anyB a t es (i + 1) = (anyB a t es i || applies a t (es.getD i default)) := by
  unfold anyB
  rw [List.take_succ_eq_append_getElem h, List.any_append, getD_lt h]
  simp
theorem anyB_all (a : Nat) (t : Int) (es : List Ent) : anyB a t es es.length = (lkp a t es).isSome := by
  unfold anyB
  rw [List.take_length]
  have h := lkp_best a t es
  cases hb : lkp a t es with
  | none =>
    rw [hb] at h
    rw [Option.isSome_none, List.any_eq_false]
    exact fun e he => by rw [h e he]; simp
  | some x =>
    rw [hb] at h
    rw [Option.isSome_some, List.any_eq_true]
    exact ⟨x, h.1, h.2.1⟩
theorem lkp_longest {a : Nat} {t : Int} {es : List Ent} {i : Nat} (h : i < es.length) (ha : applies a t (es.getD i default) = true) : (lkp a t es).isSome = true ∧ (es.getD i default).len ≤ (optE (lkp a t es)).len := by
  have hB := lkp_best a t es
  have hm : es.getD i default ∈ es := by rw [getD_lt h]; exact List.getElem_mem h
  cases hb : lkp a t es with
  | none => rw [hb] at hB; rw [hB _ hm] at ha; cases ha
  | some x => rw [hb] at hB; exact ⟨rfl, hB.2.2 _ hm ha⟩
theorem lkp_applies {a : Nat} {t : Int} {es : List Ent} (h : (lkp a t es).isSome = true) : applies a t (optE (lkp a t es)) = true ∧ optE (lkp a t es) ∈ es := by
  have hB := lkp_best a t es
  cases hb : lkp a t es with
  | none => rw [hb] at h; cases h
  | some x => rw [hb] at hB; exact ⟨hB.2.1, hB.1⟩
theorem applies_iff {a : Nat} {t : Int} {e : Ent} : applies a t e = true ↔ cont e.pr a = true ∧ e.from_ ≤ t ∧ t < e.to_ := by
  unfold applies
  rw [Bool.and_eq_true, decide_eq_true_eq]
  exact ⟨fun h => ⟨h.2, h.1⟩, fun h => ⟨h.2, h.1⟩⟩
theorem optE_ok {es : List Ent} (h : esOk es) (a : Nat) (t : Int) : eOk (optE (lkp a t es)) := by
  have hB := lkp_best a t es
  cases hb : lkp a t es with
  | none => exact (by decide : (0 : Nat) < 2 ^ 32)
  | some x => rw [hb] at hB; exact h x hB.1
theorem lkV_eq {es : List Ent} (h : RegOk es) (a : Nat) (t : Int) : lkV a t es = lkp a t es := by unfold lkV; rw [if_pos h]
end Go.Proofs.YtepkbbmjbbnhnaaGreatDoor

/- It is proved that the statement RegistryBack holds for every input: a registry comes back from its text, and its text from it. No conditions. -/
set_option linter.unusedSimpArgs false
set_option linter.unusedVariables false
namespace Go.Proofs.YtepkbbmjbbnhnaaGreatDoor
open Go.RowKit Eng
theorem slB_bytesB (a : Option Addr) (cap : Nat) (z : List Int) (hz : ∀ n ∈ z, (Lit.int .u8 n).wf = true) : isBytes (slB a cap z) :=
  ⟨a, z.length, cap, _, rfl, fun i hi => ⟨z.getD i 0, by have := bounds_u8 (hz _ (getD_mem (d := 0) hi)); omega, by have := bounds_u8 (hz _ (getD_mem (d := 0) hi)); omega, rfl⟩⟩
set_option maxHeartbeats 2000000 in
set_option maxRecDepth 100000 in
theorem backLawC (a : Option Addr) (cap : Nat) (z : List Int) (hz : ∀ n ∈ z, (Lit.int .u8 n).wf = true) : Contract FrB Tryz.prog 4 [slB a cap z] (fun r => r = .b true) := by
  have hb := slB_bytesB a cap z hz
  refine contract_of Tryz.func4 rfl (by kernel_rfl) ?_
  simp only [Tryz.ntmps4, argEnv]
  (repeat refine Sat.seq ?_)
  (refine Sat.region_k fun k hk => ?_; simp -implicitDefEqProofs only [evr, id, reduceCtorEq, reduceIte, Nat.reduceMul, Nat.reduceAdd, Nat.reduceLT, Nat.reduceLeDiff, Nat.reduceEqDiff, Int.reduceLT, Int.reduceBEq, Int.reduceBNe, Nat.reduceBEq, Nat.sub_zero, Option.map_none, ent0, ent1, ent2, ent3, ent4, regS, entS, Ent.cs, tupL, ptr, mkB_toList, evn]; refine hk _ ?_; clear hk k; try show Sat _ _ _ _ _)
  (repeat refine Sat.seq ?_)
  (refine Sat.region_k fun k hk => ?_; simp -implicitDefEqProofs only [evr, id, reduceCtorEq, reduceIte, Nat.reduceMul, Nat.reduceAdd, Nat.reduceLT, Nat.reduceLeDiff, Nat.reduceEqDiff, Int.reduceLT, Int.reduceBEq, Int.reduceBNe, Nat.reduceBEq, Nat.sub_zero, Option.map_none, ent0, ent1, ent2, ent3, ent4, regS, entS, Ent.cs, tupL, ptr, mkB_toList, evn])
  refine wcall_plain awakeC.toB rfl (by rintro _ rfl; exact ok_plain rfl) ?_
  rintro r rfl
  simp -implicitDefEqProofs only [evr, id, reduceCtorEq, reduceIte, Nat.reduceMul, Nat.reduceAdd, Nat.reduceLT, Nat.reduceLeDiff, Nat.reduceEqDiff, Int.reduceLT, Int.reduceBEq, Int.reduceBNe, Nat.reduceBEq, Nat.sub_zero, Option.map_none, ent0, ent1, ent2, ent3, ent4, regS, entS, Ent.cs, tupL, ptr, mkB_toList, evn]
  (refine hk _ ?_; clear hk k; try show Sat _ _ _ _ _)
  (repeat refine Sat.seq ?_)
  refine Sat.cond_b rfl (fun h => absurd h (by decide)) (fun _ => ?_)
  refine Sat.skip ?_
  simp only [thenK]
  (repeat refine Sat.seq ?_)
  (refine Sat.region_k fun k hk => ?_; simp -implicitDefEqProofs only [evr, id, reduceCtorEq, reduceIte, Nat.reduceMul, Nat.reduceAdd, Nat.reduceLT, Nat.reduceLeDiff, Nat.reduceEqDiff, Int.reduceLT, Int.reduceBEq, Int.reduceBNe, Nat.reduceBEq, Nat.sub_zero, Option.map_none, ent0, ent1, ent2, ent3, ent4, regS, entS, Ent.cs, tupL, ptr, mkB_toList, evn])
  refine wcall_make (rollC (slB a cap z) hb) ?_
  intro cb
  simp -implicitDefEqProofs only [evr, id, reduceCtorEq, reduceIte, Nat.reduceMul, Nat.reduceAdd, Nat.reduceLT, Nat.reduceLeDiff, Nat.reduceEqDiff, Int.reduceLT, Int.reduceBEq, Int.reduceBNe, Nat.reduceBEq, Nat.sub_zero, Option.map_none, ent0, ent1, ent2, ent3, ent4, regS, entS, Ent.cs, tupL, ptr, mkB_toList, evn]
  (refine hk _ ?_; clear hk k; try show Sat _ _ _ _ _)
  refine Sat.switchT (cb := cb) (id := 0) rfl ?_
  (repeat refine Sat.seq ?_)
  (refine Sat.region_k fun k hk => ?_; simp -implicitDefEqProofs only [evr, id, reduceCtorEq, reduceIte, Nat.reduceMul, Nat.reduceAdd, Nat.reduceLT, Nat.reduceLeDiff, Nat.reduceEqDiff, Int.reduceLT, Int.reduceBEq, Int.reduceBNe, Nat.reduceBEq, Nat.sub_zero, Option.map_none, ent0, ent1, ent2, ent3, ent4, regS, entS, Ent.cs, tupL, ptr, mkB_toList, evn])
  refine wcall_slice ((diceRegistryC cb 12 (by decide)).codesT) rfl rfl ?_
  rintro r ⟨ra, rc, es, rfl, hr, ho, hlen⟩
  simp -implicitDefEqProofs only [evr, id, reduceCtorEq, reduceIte, Nat.reduceMul, Nat.reduceAdd, Nat.reduceLT, Nat.reduceLeDiff, Nat.reduceEqDiff, Int.reduceLT, Int.reduceBEq, Int.reduceBNe, Nat.reduceBEq, Nat.sub_zero, Option.map_none, ent0, ent1, ent2, ent3, ent4, regS, entS, Ent.cs, tupL, ptr, mkB_toList, evn]
  intro b4
  (refine hk _ ?_; clear hk k; try show Sat _ _ _ _ _)
  have hv : fmtV es = (fmtR es, 0) := by unfold fmtV; rw [if_pos hr]
  have hfl := fmtR_len hr.ent
  have hpv := parV_fmt hr ho (by omega)
  refine Sat.settleBox 4 rfl rfl ?_
  (repeat refine Sat.seq ?_)
  (refine Sat.region_k fun k hk => ?_; simp -implicitDefEqProofs only [evr, id, reduceCtorEq, reduceIte, Nat.reduceMul, Nat.reduceAdd, Nat.reduceLT, Nat.reduceLeDiff, Nat.reduceEqDiff, Int.reduceLT, Int.reduceBEq, Int.reduceBNe, Nat.reduceBEq, Nat.sub_zero, Option.map_none, ent0, ent1, ent2, ent3, ent4, regS, entS, Ent.cs, tupL, ptr, mkB_toList, evn])
  refine wcall_slice ((formatRC ra rc es ho).toB.tabT) rfl (by first | rfl | (simp -implicitDefEqProofs only [evr, id, reduceCtorEq, reduceIte, Nat.reduceMul, Nat.reduceAdd, Nat.reduceLT, Nat.reduceLeDiff, Nat.reduceEqDiff, Int.reduceLT, Int.reduceBEq, Int.reduceBNe, Nat.reduceBEq, Nat.sub_zero, Option.map_none, ent0, ent1, ent2, ent3, ent4, regS, entS, Ent.cs, tupL, ptr, mkB_toList, evn]; first | done | rfl)) ?_
  rintro r rfl
  rw [hv]
  simp -implicitDefEqProofs only [evr, id, reduceCtorEq, reduceIte, Nat.reduceMul, Nat.reduceAdd, Nat.reduceLT, Nat.reduceLeDiff, Nat.reduceEqDiff, Int.reduceLT, Int.reduceBEq, Int.reduceBNe, Nat.reduceBEq, Nat.sub_zero, Option.map_none, ent0, ent1, ent2, ent3, ent4, regS, entS, Ent.cs, tupL, ptr, mkB_toList, evn]
  (refine hk _ ?_; clear hk k; try show Sat _ _ _ _ _)
  (repeat refine Sat.seq ?_)
  (refine Sat.region_k fun k hk => ?_; simp -implicitDefEqProofs only [evr, id, reduceCtorEq, reduceIte, Nat.reduceMul, Nat.reduceAdd, Nat.reduceLT, Nat.reduceLeDiff, Nat.reduceEqDiff, Int.reduceLT, Int.reduceBEq, Int.reduceBNe, Nat.reduceBEq, Nat.sub_zero, Option.map_none, ent0, ent1, ent2, ent3, ent4, regS, entS, Ent.cs, tupL, ptr, mkB_toList, evn])
  refine wcall_slice ((regParseC (fmtR es) (by omega)).tabT) rfl (by first | rfl | (simp -implicitDefEqProofs only [evr, id, reduceCtorEq, reduceIte, Nat.reduceMul, Nat.reduceAdd, Nat.reduceLT, Nat.reduceLeDiff, Nat.reduceEqDiff, Int.reduceLT, Int.reduceBEq, Int.reduceBNe, Nat.reduceBEq, Nat.sub_zero, Option.map_none, ent0, ent1, ent2, ent3, ent4, regS, entS, Ent.cs, tupL, ptr, mkB_toList, evn])) ?_
  rintro r ⟨qa, qc, rfl⟩
  rw [hpv]
  simp -implicitDefEqProofs only [evr, id, reduceCtorEq, reduceIte, Nat.reduceMul, Nat.reduceAdd, Nat.reduceLT, Nat.reduceLeDiff, Nat.reduceEqDiff, Int.reduceLT, Int.reduceBEq, Int.reduceBNe, Nat.reduceBEq, Nat.sub_zero, Option.map_none, ent0, ent1, ent2, ent3, ent4, regS, entS, Ent.cs, tupL, ptr, mkB_toList, evn]
  intro b7
  (refine hk _ ?_; clear hk k; try show Sat _ _ _ _ _)
  refine Sat.settleBox 7 rfl rfl ?_
  (repeat refine Sat.seq ?_)
  (refine Sat.region_k fun k hk => ?_; simp -implicitDefEqProofs only [evr, id, reduceCtorEq, reduceIte, Nat.reduceMul, Nat.reduceAdd, Nat.reduceLT, Nat.reduceLeDiff, Nat.reduceEqDiff, Int.reduceLT, Int.reduceBEq, Int.reduceBNe, Nat.reduceBEq, Nat.sub_zero, Option.map_none, ent0, ent1, ent2, ent3, ent4, regS, entS, Ent.cs, tupL, ptr, mkB_toList, evn])
  refine wcall_slice ((formatRC qa qc es ho).toB.tabT) rfl (by first | rfl | (simp -implicitDefEqProofs only [evr, id, reduceCtorEq, reduceIte, Nat.reduceMul, Nat.reduceAdd, Nat.reduceLT, Nat.reduceLeDiff, Nat.reduceEqDiff, Int.reduceLT, Int.reduceBEq, Int.reduceBNe, Nat.reduceBEq, Nat.sub_zero, Option.map_none, ent0, ent1, ent2, ent3, ent4, regS, entS, Ent.cs, tupL, ptr, mkB_toList, evn]; first | done | rfl)) ?_
  rintro r rfl
  rw [hv]
  simp -implicitDefEqProofs only [evr, id, reduceCtorEq, reduceIte, Nat.reduceMul, Nat.reduceAdd, Nat.reduceLT, Nat.reduceLeDiff, Nat.reduceEqDiff, Int.reduceLT, Int.reduceBEq, Int.reduceBNe, Nat.reduceBEq, Nat.sub_zero, Option.map_none, ent0, ent1, ent2, ent3, ent4, regS, entS, Ent.cs, tupL, ptr, mkB_toList, evn]
  (refine hk _ ?_; clear hk k; try show Sat _ _ _ _ _)
  (repeat refine Sat.seq ?_)
  (refine Sat.region_k fun k hk => ?_; simp -implicitDefEqProofs only [evr, id, reduceCtorEq, reduceIte, Nat.reduceMul, Nat.reduceAdd, Nat.reduceLT, Nat.reduceLeDiff, Nat.reduceEqDiff, Int.reduceLT, Int.reduceBEq, Int.reduceBNe, Nat.reduceBEq, Nat.sub_zero, Option.map_none, ent0, ent1, ent2, ent3, ent4, regS, entS, Ent.cs, tupL, ptr, mkB_toList, evn])
  refine wcall_plain (refSameC _ ra qa rc qc es es (by omega)) (by first | done | rfl | (simp -implicitDefEqProofs only [evr, id, reduceCtorEq, reduceIte, Nat.reduceMul, Nat.reduceAdd, Nat.reduceLT, Nat.reduceLeDiff, Nat.reduceEqDiff, Int.reduceLT, Int.reduceBEq, Int.reduceBNe, Nat.reduceBEq, Nat.sub_zero, Option.map_none, ent0, ent1, ent2, ent3, ent4, regS, entS, Ent.cs, tupL, ptr, mkB_toList, evn]; rfl)) (by rintro _ rfl; exact ok_plain rfl) ?_
  rintro r rfl
  simp only [decide_true, evr, id, reduceCtorEq, reduceIte, Nat.reduceMul, Nat.reduceAdd, Nat.reduceLT, Nat.reduceLeDiff, Nat.reduceEqDiff, Int.reduceLT, Int.reduceBEq, Int.reduceBNe, Nat.reduceBEq, List.append_nil, Int.toNat_zero, Nat.sub_self, Nat.sub_zero, Option.map_none, ent0, ent1, ent2, ent3, ent4, regS, entS, Ent.cs, tupL, ptr, mkB_toList, beq_self_eq_true]
  (refine hk _ ?_; clear hk k; try show Sat _ _ _ _ _)
  refine Sat.ret ?_
  simp only [Tryz.results4, evr, id, reduceCtorEq, reduceIte, Nat.reduceMul, Nat.reduceAdd, Nat.reduceLT, Nat.reduceLeDiff, Nat.reduceEqDiff, Int.reduceLT, Int.reduceBEq, Int.reduceBNe, Nat.reduceBEq, List.append_nil, Int.toNat_zero, Nat.sub_self, Nat.sub_zero, Option.map_none, ent0, ent1, ent2, ent3, ent4, regS, entS, Ent.cs, tupL, ptr, mkB_toList]
  try rfl
end Go.Proofs.YtepkbbmjbbnhnaaGreatDoor

/- dice.Spoilt of a text, by the evaluator. -/
set_option linter.unusedSimpArgs false
set_option linter.unusedVariables false
namespace Go.Proofs.YtepkbbmjbbnhnaaGreatDoor
open Go.RowKit Eng Go.Sort
theorem u8_some (z : Int) : ∃ c : UInt8, IntKind.u8.wrap z = (c.toNat : Int) := by
  refine ⟨UInt8.ofNat (IntKind.u8.wrap z).toNat, ?_⟩
  have h := IntKind.wrap_u8 z
  rw [UInt8.toNat_ofNat']
  rw [h]
  omega
theorem bytes_c (c : UInt8) : bytesOf [Eng.intOf (rdL [SV.i IntKind.u8 (c.toNat : Nat)] 1 0 0)] = mkB [c] := by
  show bytesOf [((c.toNat : Nat) : Int)] = _
  rw [bytes_one c.toNat c.toNat_lt, UInt8.ofNat_toNat]
set_option maxRecDepth 100000 in
theorem spoiltSC (cb : Nat) (s : List UInt8) (hs : s.length ≤ 100000) : Contract (Frm.codes cb) Tryz.prog 34 [ptr cb, sB s] (fun r => ∃ t : List UInt8, r = sB t ∧ t.length ≤ s.length + 1) := by
  refine contract_of Tryz.func34 rfl (by kernel_rfl) ?_
  simp only [Tryz.ntmps34, argEnv]
  (repeat refine Sat.seq ?_)
  (refine Sat.region_k fun k hk => ?_; simp -implicitDefEqProofs only [evr, id, reduceCtorEq, reduceIte, Nat.reduceMul, Nat.reduceAdd, Nat.reduceLT, Nat.reduceLeDiff, Nat.reduceEqDiff, Int.reduceLT, Int.reduceBEq, Int.reduceBNe, Nat.reduceBEq, Int.reduceNeg, mkB_size, mkB_append, mkB_list, mkB_toList, mkB_extract, empB, ptr, evn]; refine hk _ ?_; clear hk k; try show Sat _ _ _ _ _)
  (repeat refine Sat.seq ?_)
  (refine Sat.region_k fun k hk => ?_; simp -implicitDefEqProofs only [evr, id, reduceCtorEq, reduceIte, Nat.reduceMul, Nat.reduceAdd, Nat.reduceLT, Nat.reduceLeDiff, Nat.reduceEqDiff, Int.reduceLT, Int.reduceBEq, Int.reduceBNe, Nat.reduceBEq, Int.reduceNeg, mkB_size, mkB_append, mkB_list, mkB_toList, mkB_extract, empB, ptr, evn]; refine hk _ ?_; clear hk k; try show Sat _ _ _ _ _)
  (repeat refine Sat.seq ?_)
  refine Sat.cond_b rfl (fun h => ?_) (fun h => ?_)
  · (repeat refine Sat.seq ?_)
    (refine Sat.region_k fun k hk => ?_; simp -implicitDefEqProofs only [evr, id, reduceCtorEq, reduceIte, Nat.reduceMul, Nat.reduceAdd, Nat.reduceLT, Nat.reduceLeDiff, Nat.reduceEqDiff, Int.reduceLT, Int.reduceBEq, Int.reduceBNe, Nat.reduceBEq, Int.reduceNeg, mkB_size, mkB_append, mkB_list, mkB_toList, mkB_extract, empB, ptr, evn]; refine hk _ ?_; clear hk k; try show Sat _ _ _ _ _)
    refine Sat.ret ?_
    simp only [Tryz.results34, evr, id, reduceCtorEq, reduceIte, Nat.reduceMul, Nat.reduceAdd, Nat.reduceLT, Nat.reduceLeDiff, Nat.reduceEqDiff, Int.reduceLT, Int.reduceBEq, Int.reduceBNe, Nat.reduceBEq, List.append_nil, Int.toNat_zero, Nat.sub_self, Int.reduceNeg, mkB_size, mkB_append, mkB_list, mkB_toList, mkB_extract, empB, ptr]
    exact ⟨[120], rfl, by simp⟩
  have h0 : s.length ≠ 0 := by simpa using h
  refine Sat.skip ?_
  simp only [thenK]
  (repeat refine Sat.seq ?_)
  (refine Sat.region_k fun k hk => ?_; simp -implicitDefEqProofs only [evr, id, reduceCtorEq, reduceIte, Nat.reduceMul, Nat.reduceAdd, Nat.reduceLT, Nat.reduceLeDiff, Nat.reduceEqDiff, Int.reduceLT, Int.reduceBEq, Int.reduceBNe, Nat.reduceBEq, Int.reduceNeg, mkB_size, mkB_append, mkB_list, mkB_toList, mkB_extract, empB, ptr, evn])
  refine wcall_plain (nextC cb s.length (by omega) (by omega)) rfl (by rintro _ ⟨x, rfl, _⟩; exact ok_plain rfl) ?_
  rintro r ⟨x, rfl, hx0, hx1⟩
  obtain ⟨q, rfl⟩ := Int.eq_ofNat_of_zero_le hx0
  have hq : q < s.length := by omega
  have e1 : IntKind.i64.wrap ((q : Int) + 1) = ((q + 1 : Nat) : Int) := by rw [w64 (by omega)]; omega
  simp -implicitDefEqProofs only [evr, id, reduceCtorEq, reduceIte, Nat.reduceMul, Nat.reduceAdd, Nat.reduceLT, Nat.reduceLeDiff, Nat.reduceEqDiff, Int.reduceLT, Int.reduceBEq, Int.reduceBNe, Nat.reduceBEq, Int.reduceNeg, mkB_size, mkB_append, mkB_list, mkB_toList, mkB_extract, empB, ptr, evn]
  (refine hk _ ?_; clear hk k; try show Sat _ _ _ _ _)
  (repeat refine Sat.seq ?_)
  (refine Sat.region_k fun k hk => ?_; simp -implicitDefEqProofs only [evr, id, reduceCtorEq, reduceIte, Nat.reduceMul, Nat.reduceAdd, Nat.reduceLT, Nat.reduceLeDiff, Nat.reduceEqDiff, Int.reduceLT, Int.reduceBEq, Int.reduceBNe, Nat.reduceBEq, Int.reduceNeg, mkB_size, mkB_append, mkB_list, mkB_toList, mkB_extract, empB, ptr, evn])
  refine wcall_plain (boolC cb 3 (by decide) (by decide)) rfl plain_bool ?_
  rintro r ⟨bb, rfl⟩
  simp -implicitDefEqProofs only [evr, id, reduceCtorEq, reduceIte, Nat.reduceMul, Nat.reduceAdd, Nat.reduceLT, Nat.reduceLeDiff, Nat.reduceEqDiff, Int.reduceLT, Int.reduceBEq, Int.reduceBNe, Nat.reduceBEq, Int.reduceNeg, mkB_size, mkB_append, mkB_list, mkB_toList, mkB_extract, empB, ptr, evn]
  (refine hk _ ?_; clear hk k; try show Sat _ _ _ _ _)
  have hdr : (s.drop (q + 1)).take (s.length - (q + 1)) = s.drop (q + 1) := List.take_of_length_le (by rw [List.length_drop]; exact Nat.le_refl _)
  have c1 := cat_lim (a := (s.take q).length) (b := (s.drop (q + 1)).length) (by simp only [List.length_take, List.length_drop]; omega)
  (repeat refine Sat.seq ?_)
  refine Sat.cond_b rfl (fun h => ?_) (fun h => ?_)
  · (repeat refine Sat.seq ?_)
    (refine Sat.region_tree (.keep [0, 1, 3, 4, 5] [] (.alt 2 (.one 6 (.one 7 (.one 8 .done))) (.alt 6 (.one 2 (.one 7 (.one 8 .done))) .none))) (by kernel_rfl) (by kernel_rfl) (fun _ _ h => h) fun k hk => ?_; simp only [WOT, List.map_cons, List.map_nil, List.getD_cons_zero, List.getD_cons_succ]; simp -implicitDefEqProofs only [evr, id, reduceCtorEq, reduceIte, Nat.reduceMul, Nat.reduceAdd, Nat.reduceLT, Nat.reduceLeDiff, Nat.reduceEqDiff, Int.reduceLT, Int.reduceBEq, Int.reduceBNe, Nat.reduceBEq, Int.reduceNeg, mkB_size, mkB_append, mkB_list, mkB_toList, mkB_extract, empB, ptr, WOT, evn])
    simp -implicitDefEqProofs only [evr, id, reduceCtorEq, reduceIte, Nat.reduceMul, Nat.reduceAdd, Nat.reduceLT, Nat.reduceLeDiff, Nat.reduceEqDiff, Int.reduceLT, Int.reduceBEq, Int.reduceBNe, Nat.reduceBEq, Int.reduceNeg, mkB_size, mkB_append, mkB_list, mkB_toList, mkB_extract, empB, ptr, e1, Int.toNat_natCast, hdr, c1, Nat.sub_zero, List.drop_zero, evn]
    repeat' (first
      | (with_reducible refine And.intro ?_ ?_)
      | omega
      | (refine hk _ ?_
         simp only [thenK]
         refine Sat.ret ?_
         simp only [Tryz.results34, evr, id, reduceCtorEq, reduceIte, Nat.reduceMul, Nat.reduceAdd, Nat.reduceLT, Nat.reduceLeDiff, Nat.reduceEqDiff, Int.reduceLT, Int.reduceBEq, Int.reduceBNe, Nat.reduceBEq, List.append_nil, Int.toNat_zero, Nat.sub_self, Int.reduceNeg, mkB_size, mkB_append, mkB_list, mkB_toList, mkB_extract, empB, ptr]
         exact ⟨s.take q ++ s.drop (q + 1), rfl, by simp only [List.length_append, List.length_take, List.length_drop]; omega⟩))
  · refine Sat.skip ?_
    simp only [thenK]
    (repeat refine Sat.seq ?_)
    (refine Sat.region_tree (.keep [0, 1, 3, 9, 10, 11] [] (.alt 2 (.alt 4 (.alt 5 (.alt 6 (.alt 7 (.free 8 (.one 12 (.one 13 (.one 14 .done)))) (.alt 12 (.one 7 (.one 8 (.one 13 (.one 14 .done)))) .none)) (.alt 12 (.one 6 (.one 7 (.one 8 (.one 13 (.one 14 .done))))) .none)) (.alt 12 (.one 5 (.one 6 (.one 7 (.one 8 (.one 13 (.one 14 .done)))))) .none)) (.alt 12 (.one 4 (.one 5 (.one 6 (.one 7 (.one 8 (.one 13 (.one 14 .done))))))) .none)) (.alt 4 (.alt 2 (.alt 5 (.alt 6 (.alt 7 (.free 8 (.one 12 (.one 13 (.one 14 .done)))) (.alt 12 (.one 7 (.one 8 (.one 13 (.one 14 .done)))) .none)) (.alt 12 (.one 6 (.one 7 (.one 8 (.one 13 (.one 14 .done))))) .none)) (.alt 12 (.one 5 (.one 6 (.one 7 (.one 8 (.one 13 (.one 14 .done)))))) .none)) (.alt 5 (.alt 2 (.alt 6 (.alt 7 (.free 8 (.one 12 (.one 13 (.one 14 .done)))) (.alt 12 (.one 7 (.one 8 (.one 13 (.one 14 .done)))) .none)) (.alt 12 (.one 6 (.one 7 (.one 8 (.one 13 (.one 14 .done))))) .none)) (.alt 6 (.alt 2 (.alt 7 (.free 8 (.one 12 (.one 13 (.one 14 .done)))) (.alt 12 (.one 7 (.one 8 (.one 13 (.one 14 .done)))) .none)) (.alt 7 (.alt 2 (.free 8 (.one 12 (.one 13 (.one 14 .done)))) (.alt 12 (.one 2 (.one 8 (.one 13 (.one 14 .done)))) .none)) (.alt 12 (.alt 2 (.one 7 (.one 8 (.one 13 (.one 14 .done)))) (.alt 7 (.one 2 (.one 8 (.one 13 (.one 14 .done)))) .none)) .none))) (.alt 12 (.alt 2 (.one 6 (.one 7 (.one 8 (.one 13 (.one 14 .done))))) (.alt 6 (.alt 2 (.one 7 (.one 8 (.one 13 (.one 14 .done)))) (.alt 7 (.one 2 (.one 8 (.one 13 (.one 14 .done)))) .none)) .none)) .none))) (.alt 12 (.alt 2 (.one 5 (.one 6 (.one 7 (.one 8 (.one 13 (.one 14 .done)))))) (.alt 5 (.alt 2 (.one 6 (.one 7 (.one 8 (.one 13 (.one 14 .done))))) (.alt 6 (.alt 2 (.one 7 (.one 8 (.one 13 (.one 14 .done)))) (.alt 7 (.one 2 (.one 8 (.one 13 (.one 14 .done)))) .none)) .none)) .none)) .none))) (.alt 12 (.alt 2 (.one 4 (.one 5 (.one 6 (.one 7 (.one 8 (.one 13 (.one 14 .done))))))) (.alt 4 (.alt 2 (.one 5 (.one 6 (.one 7 (.one 8 (.one 13 (.one 14 .done)))))) (.alt 5 (.alt 2 (.one 6 (.one 7 (.one 8 (.one 13 (.one 14 .done))))) (.alt 6 (.alt 2 (.one 7 (.one 8 (.one 13 (.one 14 .done)))) (.alt 7 (.one 2 (.one 8 (.one 13 (.one 14 .done)))) .none)) .none)) .none)) .none)) .none)))) (by kernel_rfl) (by kernel_rfl) (fun _ _ h => h) fun k hk => ?_; simp only [WOT, List.map_cons, List.map_nil, List.getD_cons_zero, List.getD_cons_succ]; simp -implicitDefEqProofs only [evr, id, reduceCtorEq, reduceIte, Nat.reduceMul, Nat.reduceAdd, Nat.reduceLT, Nat.reduceLeDiff, Nat.reduceEqDiff, Int.reduceLT, Int.reduceBEq, Int.reduceBNe, Nat.reduceBEq, Int.reduceNeg, mkB_size, mkB_append, mkB_list, mkB_toList, mkB_extract, empB, ptr, WOT, evn])
    simp -implicitDefEqProofs only [evr, id, reduceCtorEq, reduceIte, Nat.reduceMul, Nat.reduceAdd, Nat.reduceLT, Nat.reduceLeDiff, Nat.reduceEqDiff, Int.reduceLT, Int.reduceBEq, Int.reduceBNe, Nat.reduceBEq, Int.reduceNeg, mkB_size, mkB_append, mkB_list, mkB_toList, mkB_extract, empB, ptr, e1, Int.toNat_natCast, hdr, c1, Nat.sub_zero, List.drop_zero, evn]
    repeat' (first
      | (with_reducible refine And.intro ?_ ?_)
      | omega
      )
    all_goals
        (refine wcall_plain (nextC cb 256 (by decide) (by decide)) rfl (by rintro _ ⟨x, rfl, _⟩; exact ok_plain rfl) ?_
         rintro r ⟨x, rfl, hx0, hx1⟩
         obtain ⟨c, hc⟩ := u8_some x
         have c2 := cat_lim (a := (s.take q).length) (b := 1) (by simp only [List.length_take]; omega)
         have c3 := cat_lim (a := (s.take q ++ [c]).length) (b := (s.drop (q + 1)).length) (by simp only [List.length_append, List.length_take, List.length_drop, List.length_cons, List.length_nil]; omega)
         have b1 := bytes_c c
         have hlen : (s.take q ++ c :: s.drop (q + 1)).length ≤ s.length + 1 := by simp only [List.length_append, List.length_take, List.length_drop, List.length_cons]; omega
         have hby : ∀ i, i < 1 → ∃ m : Int, rdL [SV.i IntKind.u8 (c.toNat : Nat)] 1 i 0 = SV.i IntKind.u8 m := fun i hi => ⟨(c.toNat : Nat), by
           obtain rfl : i = 0 := by omega
           rfl⟩
         have hbt := eq_true hby
         simp -implicitDefEqProofs only [evr, id, reduceCtorEq, reduceIte, Nat.reduceMul, Nat.reduceAdd, Nat.reduceLT, Nat.reduceLeDiff, Nat.reduceEqDiff, Int.reduceLT, Int.reduceBEq, Int.reduceBNe, Nat.reduceBEq, Int.reduceNeg, mkB_size, mkB_append, mkB_list, mkB_toList, mkB_extract, empB, ptr, e1, Int.toNat_natCast, Nat.sub_zero, List.drop_zero, hc, b1, c2, c3, hdr, hbt, true_and, evn]
         repeat' (first
           | (with_reducible refine And.intro ?_ ?_)
           | omega
           | (refine hk _ ?_
              simp only [thenK]
              refine Sat.ret ?_
              simp only [Tryz.results34, evr, id, reduceCtorEq, reduceIte, Nat.reduceMul, Nat.reduceAdd, Nat.reduceLT, Nat.reduceLeDiff, Nat.reduceEqDiff, Int.reduceLT, Int.reduceBEq, Int.reduceBNe, Nat.reduceBEq, List.append_nil, Int.toNat_zero, Nat.sub_self, Int.reduceNeg, mkB_size, mkB_append, mkB_list, mkB_toList, mkB_extract, empB, ptr]
              exact ⟨s.take q ++ c :: s.drop (q + 1), rfl, hlen⟩)
           | (with_reducible intro blk)))
end Go.Proofs.YtepkbbmjbbnhnaaGreatDoor

/- It is proved that the statement RegistryTexts holds for every input: Format and Parse of package registry answer as those of the reference. No conditions. -/
set_option linter.unusedSimpArgs false
set_option linter.unusedVariables false
namespace Go.Proofs.YtepkbbmjbbnhnaaGreatDoor
open Go.RowKit Eng
theorem parG_len : ∀ (f n : Nat) (s : List UInt8) (acc : List Ent), (parG f n s acc).1.length ≤ acc.length + f
  | 0, _, _, _ => by simp [parG]
  | f + 1, n, s, acc => by
    unfold parG
    split
    · split
      · show acc.length ≤ _; omega
      · exact Nat.zero_le _
    · split
      · exact Nat.zero_le _
      · split
        · exact Nat.zero_le _
        · split
          · rename_i e _ _
            have h := parG_len f (n + 1) (s.drop ((Lib.indexByte s 10).toNat + 1)) (acc ++ [e])
            simp only [List.length_append, List.length_cons, List.length_nil] at h
            omega
          · exact Nat.zero_le _
theorem parV_len (s : List UInt8) (h : s.length ≤ 60000) : (parV s).1.length ≤ 60001 := by
  unfold parV
  rw [if_pos (by omega)]
  have := parG_len (s.length + 1) 1 s []
  simp only [List.length_nil] at this
  omega
set_option maxHeartbeats 2000000 in
set_option maxRecDepth 100000 in
theorem textsLawC (a : Option Addr) (cap : Nat) (z : List Int) (hz : ∀ n ∈ z, (Lit.int .u8 n).wf = true) (wa : Option Addr) (wc : Nat) (ws : List Ent) (hw : esOk ws) (tx : List UInt8) :
    Contract FrB Tryz.prog 5 [slB a cap z, regS wa wc ws, sB tx] (fun r => r = .b true) := by
  have hb := slB_bytesB a cap z hz
  refine contract_of Tryz.func5 rfl (by kernel_rfl) ?_
  simp only [Tryz.ntmps5, argEnv, regS]
  (repeat refine Sat.seq ?_)
  (refine Sat.region_k fun k hk => ?_; simp -implicitDefEqProofs only [evr, id, reduceCtorEq, reduceIte, Nat.reduceMul, Nat.reduceAdd, Nat.reduceLT, Nat.reduceLeDiff, Nat.reduceEqDiff, Int.reduceLT, Int.reduceBEq, Int.reduceBNe, Nat.reduceBEq, Nat.sub_zero, Option.map_none, ent0, ent1, ent2, ent3, ent4, regS, entS, Ent.cs, tupL, ptr, RgP.s, regs0, mkB_toList, mkB_size, mkB_append, evn])
  intro b4
  (refine hk _ ?_; clear hk k; try show Sat _ _ _ _ _)
  (repeat refine Sat.seq ?_)
  (refine Sat.region_k fun k hk => ?_; simp -implicitDefEqProofs only [evr, id, reduceCtorEq, reduceIte, Nat.reduceMul, Nat.reduceAdd, Nat.reduceLT, Nat.reduceLeDiff, Nat.reduceEqDiff, Int.reduceLT, Int.reduceBEq, Int.reduceBNe, Nat.reduceBEq, Nat.sub_zero, Option.map_none, ent0, ent1, ent2, ent3, ent4, regS, entS, Ent.cs, tupL, ptr, RgP.s, regs0, mkB_toList, mkB_size, mkB_append, evn])
  refine wcall_plain awakeC.toB rfl (by rintro _ rfl; exact ok_plain rfl) ?_
  rintro r rfl
  simp -implicitDefEqProofs only [evr, id, reduceCtorEq, reduceIte, Nat.reduceMul, Nat.reduceAdd, Nat.reduceLT, Nat.reduceLeDiff, Nat.reduceEqDiff, Int.reduceLT, Int.reduceBEq, Int.reduceBNe, Nat.reduceBEq, Nat.sub_zero, Option.map_none, ent0, ent1, ent2, ent3, ent4, regS, entS, Ent.cs, tupL, ptr, RgP.s, regs0, mkB_toList, mkB_size, mkB_append, evn]
  refine ⟨fun hc => hk _ ?_, fun hc => hk _ ?_⟩
  · simp only [thenK]
    (repeat refine Sat.seq ?_)
    refine Sat.cond_tt rfl ?_
    (repeat refine Sat.seq ?_)
    (refine Sat.region_k fun k hk => ?_; simp -implicitDefEqProofs only [evr, id, reduceCtorEq, reduceIte, Nat.reduceMul, Nat.reduceAdd, Nat.reduceLT, Nat.reduceLeDiff, Nat.reduceEqDiff, Int.reduceLT, Int.reduceBEq, Int.reduceBNe, Nat.reduceBEq, Nat.sub_zero, Option.map_none, ent0, ent1, ent2, ent3, ent4, regS, entS, Ent.cs, tupL, ptr, RgP.s, regs0, mkB_toList, mkB_size, mkB_append, evn])
    refine wcall_plain awakeC.toB rfl (by rintro _ rfl; exact ok_plain rfl) ?_
    rintro r rfl
    simp -implicitDefEqProofs only [evr, id, reduceCtorEq, reduceIte, Nat.reduceMul, Nat.reduceAdd, Nat.reduceLT, Nat.reduceLeDiff, Nat.reduceEqDiff, Int.reduceLT, Int.reduceBEq, Int.reduceBNe, Nat.reduceBEq, Nat.sub_zero, Option.map_none, ent0, ent1, ent2, ent3, ent4, regS, entS, Ent.cs, tupL, ptr, RgP.s, regs0, mkB_toList, mkB_size, mkB_append, evn]
    (refine hk _ ?_; clear hk k; try show Sat _ _ _ _ _)
    refine Sat.ret ?_
    simp only [Tryz.results5, evr, id, reduceCtorEq, reduceIte, Nat.reduceMul, Nat.reduceAdd, Nat.reduceLT, Nat.reduceLeDiff, Nat.reduceEqDiff, Int.reduceLT, Int.reduceBEq, Int.reduceBNe, Nat.reduceBEq, List.append_nil, Int.toNat_zero, Nat.sub_self, Nat.sub_zero, Option.map_none, ent0, ent1, ent2, ent3, ent4, regS, entS, Ent.cs, tupL, ptr, RgP.s, regs0, mkB_toList, mkB_size, mkB_append]
  simp only [thenK]
  (repeat refine Sat.seq ?_)
  refine Sat.cond_b rfl (fun h1 => ?_) (fun h1 => ?_)
  · (repeat refine Sat.seq ?_)
    (refine Sat.region_k fun k hk => ?_; simp -implicitDefEqProofs only [evr, id, reduceCtorEq, reduceIte, Nat.reduceMul, Nat.reduceAdd, Nat.reduceLT, Nat.reduceLeDiff, Nat.reduceEqDiff, Int.reduceLT, Int.reduceBEq, Int.reduceBNe, Nat.reduceBEq, Nat.sub_zero, Option.map_none, ent0, ent1, ent2, ent3, ent4, regS, entS, Ent.cs, tupL, ptr, RgP.s, regs0, mkB_toList, mkB_size, mkB_append, evn])
    refine wcall_plain awakeC.toB rfl (by rintro _ rfl; exact ok_plain rfl) ?_
    rintro r rfl
    simp -implicitDefEqProofs only [evr, id, reduceCtorEq, reduceIte, Nat.reduceMul, Nat.reduceAdd, Nat.reduceLT, Nat.reduceLeDiff, Nat.reduceEqDiff, Int.reduceLT, Int.reduceBEq, Int.reduceBNe, Nat.reduceBEq, Nat.sub_zero, Option.map_none, ent0, ent1, ent2, ent3, ent4, regS, entS, Ent.cs, tupL, ptr, RgP.s, regs0, mkB_toList, mkB_size, mkB_append, evn]
    (refine hk _ ?_; clear hk k; try show Sat _ _ _ _ _)
    refine Sat.ret ?_
    simp only [Tryz.results5, evr, id, reduceCtorEq, reduceIte, Nat.reduceMul, Nat.reduceAdd, Nat.reduceLT, Nat.reduceLeDiff, Nat.reduceEqDiff, Int.reduceLT, Int.reduceBEq, Int.reduceBNe, Nat.reduceBEq, List.append_nil, Int.toNat_zero, Nat.sub_self, Nat.sub_zero, Option.map_none, ent0, ent1, ent2, ent3, ent4, regS, entS, Ent.cs, tupL, ptr, RgP.s, regs0, mkB_toList, mkB_size, mkB_append]
  simp only [decide_eq_false_iff_not] at h1
  refine Sat.skip ?_
  simp only [thenK]
  (repeat refine Sat.seq ?_)
  (refine Sat.region_k fun k hk => ?_; simp -implicitDefEqProofs only [evr, id, reduceCtorEq, reduceIte, Nat.reduceMul, Nat.reduceAdd, Nat.reduceLT, Nat.reduceLeDiff, Nat.reduceEqDiff, Int.reduceLT, Int.reduceBEq, Int.reduceBNe, Nat.reduceBEq, Nat.sub_zero, Option.map_none, ent0, ent1, ent2, ent3, ent4, regS, entS, Ent.cs, tupL, ptr, RgP.s, regs0, mkB_toList, mkB_size, mkB_append, evn])
  refine wcall_make (rollC (slB a cap z) hb) ?_
  intro cb
  simp -implicitDefEqProofs only [evr, id, reduceCtorEq, reduceIte, Nat.reduceMul, Nat.reduceAdd, Nat.reduceLT, Nat.reduceLeDiff, Nat.reduceEqDiff, Int.reduceLT, Int.reduceBEq, Int.reduceBNe, Nat.reduceBEq, Nat.sub_zero, Option.map_none, ent0, ent1, ent2, ent3, ent4, regS, entS, Ent.cs, tupL, ptr, RgP.s, regs0, mkB_toList, mkB_size, mkB_append, evn]
  (refine hk _ ?_; clear hk k; try show Sat _ _ _ _ _)
  refine Sat.settleBox 4 rfl rfl ?_
  refine Sat.switchT (cb := cb) (id := 1) rfl ?_
  (repeat refine Sat.seq ?_)
  (refine Sat.region_k fun k hk => ?_; simp -implicitDefEqProofs only [evr, id, reduceCtorEq, reduceIte, Nat.reduceMul, Nat.reduceAdd, Nat.reduceLT, Nat.reduceLeDiff, Nat.reduceEqDiff, Int.reduceLT, Int.reduceBEq, Int.reduceBNe, Nat.reduceBEq, Nat.sub_zero, Option.map_none, ent0, ent1, ent2, ent3, ent4, regS, entS, Ent.cs, tupL, ptr, RgP.s, regs0, mkB_toList, mkB_size, mkB_append, evn])
  refine wcall_slice ((diceRegistryC cb 8 (by decide)).codesT) rfl rfl ?_
  rintro r ⟨xa, xc, xs, rfl, hxr, hx, hxl⟩
  simp -implicitDefEqProofs only [evr, id, reduceCtorEq, reduceIte, Nat.reduceMul, Nat.reduceAdd, Nat.reduceLT, Nat.reduceLeDiff, Nat.reduceEqDiff, Int.reduceLT, Int.reduceBEq, Int.reduceBNe, Nat.reduceBEq, Nat.sub_zero, Option.map_none, ent0, ent1, ent2, ent3, ent4, regS, entS, Ent.cs, tupL, ptr, RgP.s, regs0, mkB_toList, mkB_size, mkB_append, evn]
  intro b8
  (refine hk _ ?_; clear hk k; try show Sat _ _ _ _ _)
  refine Sat.settleBox 8 rfl rfl ?_
  (repeat refine Sat.seq ?_)
  (refine Sat.region_rows [⟨0, 44, 256, 1⟩, ⟨0, 45, 16, 1⟩, ⟨0, 46, 128, 0⟩, ⟨0, 47, 256, 1⟩, ⟨12, 48, 105553116266496, 2⟩, ⟨19, 49, 167125767421952, 2⟩, ⟨32, 50, 281474976710656, 0⟩, ⟨0, 51, 0, 0⟩] [2, 7, 0, 1, 3] [(4, false), (5, false), (6, false)] [4] (by kernel_rfl) (by kernel_rfl) (fun _ _ h => h) fun k hk => ?_; simp only [List.map_cons, List.map_nil, List.getD_cons_zero, List.getD_cons_succ, btseq_cons, btseq_free, btseq_nil]; simp -implicitDefEqProofs only [evr, id, reduceCtorEq, reduceIte, Nat.reduceMul, Nat.reduceAdd, Nat.reduceLT, Nat.reduceLeDiff, Nat.reduceEqDiff, Int.reduceLT, Int.reduceBEq, Int.reduceBNe, Nat.reduceBEq, Nat.sub_zero, Option.map_none, ent0, ent1, ent2, ent3, ent4, regS, entS, Ent.cs, tupL, ptr, RgP.s, regs0, mkB_toList, mkB_size, mkB_append, evn])
  refine wcall_slice ((oddRegistryC cb xa xc xs hx (by omega)).codesT) rfl (by simp -implicitDefEqProofs only [evr, id, reduceCtorEq, reduceIte, Nat.reduceMul, Nat.reduceAdd, Nat.reduceLT, Nat.reduceLeDiff, Nat.reduceEqDiff, Int.reduceLT, Int.reduceBEq, Int.reduceBNe, Nat.reduceBEq, Nat.sub_zero, Option.map_none, ent0, ent1, ent2, ent3, ent4, regS, entS, Ent.cs, tupL, ptr, RgP.s, regs0, mkB_toList, mkB_size, mkB_append, evn]; first | done | rfl) ?_
  rintro r ⟨oa, oc, os, rfl, hos, hol⟩
  simp -implicitDefEqProofs only [evr, id, reduceCtorEq, reduceIte, Nat.reduceMul, Nat.reduceAdd, Nat.reduceLT, Nat.reduceLeDiff, Nat.reduceEqDiff, Int.reduceLT, Int.reduceBEq, Int.reduceBNe, Nat.reduceBEq, Nat.sub_zero, Option.map_none, ent0, ent1, ent2, ent3, ent4, regS, entS, Ent.cs, tupL, ptr, RgP.s, regs0, mkB_toList, mkB_size, mkB_append, evn]
  intro bl
  (refine hk _ ?_; clear hk k; try show Sat _ _ _ _ _)
  obtain ⟨rs, hrs⟩ : ∃ rs : List RgP, rs = [⟨xa, xc, xs⟩, ⟨wa, wc, ws⟩, ⟨oa, oc, os⟩] := ⟨_, rfl⟩
  have hrok : ∀ r ∈ rs, esOk r.es := by
    rw [hrs]
    intro r hr
    simp only [List.mem_cons, List.mem_singleton, List.not_mem_nil, or_false] at hr
    rcases hr with rfl | rfl | rfl
    · exact hx
    · exact hw
    · exact hos
  (repeat refine Sat.seq ?_)
  refine Sat.block ?_
  refine Sat.loop (ι := Nat) (fun i => ⟨122, [(50, .i .i64 i), (49, .i .i64 3), (48, .os 1 (some ⟨bl, 0, none⟩) 3 3), (8, .el ⟨b8, 0, none⟩ 1 fun j => [SV.sl xa xs.length xc 5 (entRd xs)].getD j default), (7, .v (.pointer (some ⟨cb, 0, none⟩))), (6, .ff), (2, sB tx)], [.gone, .row (some ⟨bl, 0, none⟩) 25 3 3 1 (regsRd rs)]⟩) (fun i => i ≤ 3) (fun i => 3 - i) 0 (Nat.zero_le _) (by
    simp -implicitDefEqProofs only [evr, id, reduceCtorEq, reduceIte, Nat.reduceMul, Nat.reduceAdd, Nat.reduceLT, Nat.reduceLeDiff, Nat.reduceEqDiff, Int.reduceLT, Int.reduceBEq, Int.reduceBNe, Nat.reduceBEq, Nat.sub_zero, Option.map_none, ent0, ent1, ent2, ent3, ent4, regS, entS, Ent.cs, tupL, ptr, RgP.s, regs0, mkB_toList, mkB_size, mkB_append, evl, evn]
    rw [hrs]
    refine ⟨⟨rfl, rfl⟩, ?_⟩
    intro p q hp hq
    obtain rfl : q = 0 := by omega
    rcases (show p = 0 ∨ p = 1 ∨ p = 2 by omega) with rfl | rfl | rfl <;> rfl) ?_
  rintro i hi
  (repeat refine Sat.seq ?_)
  (refine Sat.region_k fun k hk => ?_; simp -implicitDefEqProofs only [evr, id, reduceCtorEq, reduceIte, Nat.reduceMul, Nat.reduceAdd, Nat.reduceLT, Nat.reduceLeDiff, Nat.reduceEqDiff, Int.reduceLT, Int.reduceBEq, Int.reduceBNe, Nat.reduceBEq, Nat.sub_zero, Option.map_none, ent0, ent1, ent2, ent3, ent4, regS, entS, Ent.cs, tupL, ptr, RgP.s, regs0, mkB_toList, mkB_size, mkB_append, evn]; refine hk _ ?_; clear hk k; try show Sat _ _ _ _ _)
  (repeat refine Sat.seq ?_)
  refine Sat.cond_b rfl (fun h2 => ?_) (fun h2 => ?_)
  · simp only [decide_eq_true_eq] at h2
    have hlt : i < 3 := by omega
    have hrl : rs.length = 3 := by rw [hrs]; rfl
    have hrg := hrok (rs.getD i default) (by
      have : rs.getD i default = rs[i]'(by omega) := by simp [List.getD, show i < rs.length by omega]
      rw [this]; exact List.getElem_mem _)
    have e1 : IntKind.i64.wrap ((i : Int) + 1) = ((i + 1 : Nat) : Int) := by rw [w64 (by omega)]; omega
    refine Sat.skip ?_
    simp only [thenK]
    (repeat refine Sat.seq ?_)
    refine Sat.block ?_
    (repeat refine Sat.seq ?_)
    (refine Sat.region_k fun k hk => ?_; simp -implicitDefEqProofs only [evr, id, reduceCtorEq, reduceIte, Nat.reduceMul, Nat.reduceAdd, Nat.reduceLT, Nat.reduceLeDiff, Nat.reduceEqDiff, Int.reduceLT, Int.reduceBEq, Int.reduceBNe, Nat.reduceBEq, Nat.sub_zero, Option.map_none, ent0, ent1, ent2, ent3, ent4, regS, entS, Ent.cs, tupL, ptr, RgP.s, regs0, mkB_toList, mkB_size, mkB_append, evn])
    refine ⟨by omega, by omega, fun b10 => ?_⟩
    (refine hk _ ?_; clear hk k; try show Sat _ _ _ _ _)
    generalize rs.getD i default = rg at hrg ⊢
    refine Sat.settleBox 10 rfl rfl ?_
    (repeat refine Sat.seq ?_)
    (refine Sat.region_k fun k hk => ?_; simp -implicitDefEqProofs only [evr, id, reduceCtorEq, reduceIte, Nat.reduceMul, Nat.reduceAdd, Nat.reduceLT, Nat.reduceLeDiff, Nat.reduceEqDiff, Int.reduceLT, Int.reduceBEq, Int.reduceBNe, Nat.reduceBEq, Nat.sub_zero, Option.map_none, ent0, ent1, ent2, ent3, ent4, regS, entS, Ent.cs, tupL, ptr, RgP.s, regs0, mkB_toList, mkB_size, mkB_append, evn])
    refine wcall_slice ((formatRC rg.ad rg.cap rg.es hrg).toB.tabT) rfl (by first | rfl | (simp -implicitDefEqProofs only [evr, id, reduceCtorEq, reduceIte, Nat.reduceMul, Nat.reduceAdd, Nat.reduceLT, Nat.reduceLeDiff, Nat.reduceEqDiff, Int.reduceLT, Int.reduceBEq, Int.reduceBNe, Nat.reduceBEq, Nat.sub_zero, Option.map_none, ent0, ent1, ent2, ent3, ent4, regS, entS, Ent.cs, tupL, ptr, RgP.s, regs0, mkB_toList, mkB_size, mkB_append, evn]; first | done | rfl)) ?_
    rintro r rfl
    simp -implicitDefEqProofs only [evr, id, reduceCtorEq, reduceIte, Nat.reduceMul, Nat.reduceAdd, Nat.reduceLT, Nat.reduceLeDiff, Nat.reduceEqDiff, Int.reduceLT, Int.reduceBEq, Int.reduceBNe, Nat.reduceBEq, Nat.sub_zero, Option.map_none, ent0, ent1, ent2, ent3, ent4, regS, entS, Ent.cs, tupL, ptr, RgP.s, regs0, mkB_toList, mkB_size, mkB_append, evn]
    (refine hk _ ?_; clear hk k; try show Sat _ _ _ _ _)
    (repeat refine Sat.seq ?_)
    (refine Sat.region_k fun k hk => ?_; simp -implicitDefEqProofs only [evr, id, reduceCtorEq, reduceIte, Nat.reduceMul, Nat.reduceAdd, Nat.reduceLT, Nat.reduceLeDiff, Nat.reduceEqDiff, Int.reduceLT, Int.reduceBEq, Int.reduceBNe, Nat.reduceBEq, Nat.sub_zero, Option.map_none, ent0, ent1, ent2, ent3, ent4, regS, entS, Ent.cs, tupL, ptr, RgP.s, regs0, mkB_toList, mkB_size, mkB_append, evn])
    refine wcall_slice ((refFormatRC rg.ad rg.cap rg.es hrg).toB.tabT) rfl (by first | rfl | (simp -implicitDefEqProofs only [evr, id, reduceCtorEq, reduceIte, Nat.reduceMul, Nat.reduceAdd, Nat.reduceLT, Nat.reduceLeDiff, Nat.reduceEqDiff, Int.reduceLT, Int.reduceBEq, Int.reduceBNe, Nat.reduceBEq, Nat.sub_zero, Option.map_none, ent0, ent1, ent2, ent3, ent4, regS, entS, Ent.cs, tupL, ptr, RgP.s, regs0, mkB_toList, mkB_size, mkB_append, evn]; first | done | rfl)) ?_
    rintro r rfl
    simp -implicitDefEqProofs only [evr, id, reduceCtorEq, reduceIte, Nat.reduceMul, Nat.reduceAdd, Nat.reduceLT, Nat.reduceLeDiff, Nat.reduceEqDiff, Int.reduceLT, Int.reduceBEq, Int.reduceBNe, Nat.reduceBEq, Nat.sub_zero, Option.map_none, ent0, ent1, ent2, ent3, ent4, regS, entS, Ent.cs, tupL, ptr, RgP.s, regs0, mkB_toList, mkB_size, mkB_append, evn]
    (refine hk _ ?_; clear hk k; try show Sat _ _ _ _ _)
    (repeat refine Sat.seq ?_)
    refine Sat.region_k fun k hk => ?_
    simp -implicitDefEqProofs only [evr, id, reduceCtorEq, reduceIte, Nat.reduceMul, Nat.reduceAdd, Nat.reduceLT, Nat.reduceLeDiff, Nat.reduceEqDiff, Int.reduceLT, Int.reduceBEq, Int.reduceBNe, Nat.reduceBEq, Nat.sub_zero, Option.map_none, ent0, ent1, ent2, ent3, ent4, regS, entS, Ent.cs, tupL, ptr, RgP.s, regs0, mkB_toList, mkB_size, mkB_append, bne_self_eq_false, evn]
    (refine hk _ ?_; clear hk k; try show Sat _ _ _ _ _)
    (repeat refine Sat.seq ?_)
    refine Sat.cond_b rfl (fun h => absurd h (by decide)) (fun _ => ?_)
    refine Sat.skip ?_
    simp only [thenK, blockK, reduceIte]
    refine Sat.region_k fun k hk => ?_
    simp -implicitDefEqProofs only [evr, id, reduceCtorEq, reduceIte, Nat.reduceMul, Nat.reduceAdd, Nat.reduceLT, Nat.reduceLeDiff, Nat.reduceEqDiff, Int.reduceLT, Int.reduceBEq, Int.reduceBNe, Nat.reduceBEq, Nat.sub_zero, Option.map_none, ent0, ent1, ent2, ent3, ent4, regS, entS, Ent.cs, tupL, ptr, RgP.s, regs0, mkB_toList, mkB_size, mkB_append, e1, evn]
    refine hk _ ?_
    simp only [thenK, blockK]
    refine ⟨i + 1, by omega, by omega, ?_⟩
    simp -implicitDefEqProofs only [evr, id, reduceCtorEq, reduceIte, Nat.reduceMul, Nat.reduceAdd, Nat.reduceLT, Nat.reduceLeDiff, Nat.reduceEqDiff, Int.reduceLT, Int.reduceBEq, Int.reduceBNe, Nat.reduceBEq, Nat.sub_zero, Option.map_none, ent0, ent1, ent2, ent3, ent4, regS, entS, Ent.cs, tupL, ptr, RgP.s, regs0, mkB_toList, mkB_size, mkB_append, evl, evn]
  refine Sat.exit ?_
  simp only [thenK, blockK, reduceIte]
  have hv : fmtV xs = (fmtR xs, 0) := by unfold fmtV; rw [if_pos hxr]
  have hfl := fmtR_len hxr.ent
  (repeat refine Sat.seq ?_)
  (refine Sat.region_k fun k hk => ?_; simp -implicitDefEqProofs only [evr, id, reduceCtorEq, reduceIte, Nat.reduceMul, Nat.reduceAdd, Nat.reduceLT, Nat.reduceLeDiff, Nat.reduceEqDiff, Int.reduceLT, Int.reduceBEq, Int.reduceBNe, Nat.reduceBEq, Nat.sub_zero, Option.map_none, ent0, ent1, ent2, ent3, ent4, regS, entS, Ent.cs, tupL, ptr, RgP.s, regs0, mkB_toList, mkB_size, mkB_append, evn])
  refine wcall_slice ((refFormatRC xa xc xs hx).toB.tabT) rfl (by first | rfl | (simp -implicitDefEqProofs only [evr, id, reduceCtorEq, reduceIte, Nat.reduceMul, Nat.reduceAdd, Nat.reduceLT, Nat.reduceLeDiff, Nat.reduceEqDiff, Int.reduceLT, Int.reduceBEq, Int.reduceBNe, Nat.reduceBEq, Nat.sub_zero, Option.map_none, ent0, ent1, ent2, ent3, ent4, regS, entS, Ent.cs, tupL, ptr, RgP.s, regs0, mkB_toList, mkB_size, mkB_append, evn]; first | done | rfl)) ?_
  rintro r rfl
  rw [hv]
  simp -implicitDefEqProofs only [evr, id, reduceCtorEq, reduceIte, Nat.reduceMul, Nat.reduceAdd, Nat.reduceLT, Nat.reduceLeDiff, Nat.reduceEqDiff, Int.reduceLT, Int.reduceBEq, Int.reduceBNe, Nat.reduceBEq, Nat.sub_zero, Option.map_none, ent0, ent1, ent2, ent3, ent4, regS, entS, Ent.cs, tupL, ptr, RgP.s, regs0, mkB_toList, mkB_size, mkB_append, evn]
  (refine hk _ ?_; clear hk k; try show Sat _ _ _ _ _)
  generalize fmtR xs = s at hfl ⊢
  have hsl : s.length ≤ 800 := by omega
  have c1 := cat_lim (a := s.length) (b := tx.length) (by omega)
  have c2 := cat_lim (a := s.length) (b := s.length) (by omega)
  (repeat refine Sat.seq ?_)
  (refine Sat.region_k fun k hk => ?_; simp -implicitDefEqProofs only [evr, id, reduceCtorEq, reduceIte, Nat.reduceMul, Nat.reduceAdd, Nat.reduceLT, Nat.reduceLeDiff, Nat.reduceEqDiff, Int.reduceLT, Int.reduceBEq, Int.reduceBNe, Nat.reduceBEq, Nat.sub_zero, Option.map_none, ent0, ent1, ent2, ent3, ent4, regS, entS, Ent.cs, tupL, ptr, RgP.s, regs0, mkB_toList, mkB_size, mkB_append, evn])
  refine wcall_slice ((spoiltSC cb s (by omega)).codesT) rfl (by first | rfl | (simp -implicitDefEqProofs only [evr, id, reduceCtorEq, reduceIte, Nat.reduceMul, Nat.reduceAdd, Nat.reduceLT, Nat.reduceLeDiff, Nat.reduceEqDiff, Int.reduceLT, Int.reduceBEq, Int.reduceBNe, Nat.reduceBEq, Nat.sub_zero, Option.map_none, ent0, ent1, ent2, ent3, ent4, regS, entS, Ent.cs, tupL, ptr, RgP.s, regs0, mkB_toList, mkB_size, mkB_append, evn]; first | done | rfl)) ?_
  rintro r ⟨sp, rfl, hsp⟩
  simp -implicitDefEqProofs only [evr, id, reduceCtorEq, reduceIte, Nat.reduceMul, Nat.reduceAdd, Nat.reduceLT, Nat.reduceLeDiff, Nat.reduceEqDiff, Int.reduceLT, Int.reduceBEq, Int.reduceBNe, Nat.reduceBEq, Nat.sub_zero, Option.map_none, ent0, ent1, ent2, ent3, ent4, regS, entS, Ent.cs, tupL, ptr, RgP.s, regs0, mkB_toList, mkB_size, mkB_append, c1, c2, evn]
  intro bs
  (refine hk _ ?_; clear hk k; try show Sat _ _ _ _ _)
  obtain ⟨us, hus⟩ : ∃ us : List (List UInt8), us = [s, tx, sp, s ++ tx, s ++ s] := ⟨_, rfl⟩
  have hul : ∀ j, (us.getD j []).length ≤ 60000 := fun j => by
    rw [hus]
    match j with
    | 0 => show s.length ≤ _; omega
    | 1 => show tx.length ≤ _; omega
    | 2 => show sp.length ≤ _; omega
    | 3 => show (s ++ tx).length ≤ _; rw [List.length_append]; omega
    | 4 => show (s ++ s).length ≤ _; rw [List.length_append]; omega
    | j + 5 => exact Nat.zero_le _
  (repeat refine Sat.seq ?_)
  refine Sat.block ?_
  refine Sat.loop (ι := Nat) (fun i => ⟨122, [(91, .i .i64 i), (90, .i .i64 5), (89, .os 2 (some ⟨bs, 0, none⟩) 5 5), (8, .el ⟨b8, 0, none⟩ 1 fun j => [SV.sl xa xs.length xc 5 (entRd xs)].getD j default), (7, .v (.pointer (some ⟨cb, 0, none⟩))), (6, .ff), (2, sB tx)], [.gone, .gone, .row (some ⟨bs, 0, none⟩) 9 5 5 1 (fun i _ => sB (us.getD i []))]⟩) (fun i => i ≤ 5) (fun i => 5 - i) 0 (Nat.zero_le _) (by
    simp -implicitDefEqProofs only [evr, id, reduceCtorEq, reduceIte, Nat.reduceMul, Nat.reduceAdd, Nat.reduceLT, Nat.reduceLeDiff, Nat.reduceEqDiff, Int.reduceLT, Int.reduceBEq, Int.reduceBNe, Nat.reduceBEq, Nat.sub_zero, Option.map_none, ent0, ent1, ent2, ent3, ent4, regS, entS, Ent.cs, tupL, ptr, RgP.s, regs0, mkB_toList, mkB_size, mkB_append, evl, evn]
    rw [hus]
    refine ⟨⟨rfl, rfl⟩, ?_⟩
    intro p q hp hq
    obtain rfl : q = 0 := by omega
    rcases (show p = 0 ∨ p = 1 ∨ p = 2 ∨ p = 3 ∨ p = 4 by omega) with rfl | rfl | rfl | rfl | rfl <;> rfl) ?_
  rintro i hi
  (repeat refine Sat.seq ?_)
  (refine Sat.region_k fun k hk => ?_; simp -implicitDefEqProofs only [evr, id, reduceCtorEq, reduceIte, Nat.reduceMul, Nat.reduceAdd, Nat.reduceLT, Nat.reduceLeDiff, Nat.reduceEqDiff, Int.reduceLT, Int.reduceBEq, Int.reduceBNe, Nat.reduceBEq, Nat.sub_zero, Option.map_none, ent0, ent1, ent2, ent3, ent4, regS, entS, Ent.cs, tupL, ptr, RgP.s, regs0, mkB_toList, mkB_size, mkB_append, evn]; refine hk _ ?_; clear hk k; try show Sat _ _ _ _ _)
  (repeat refine Sat.seq ?_)
  refine Sat.cond_b rfl (fun h2 => ?_) (fun h2 => ?_)
  rotate_left
  · refine Sat.exit ?_
    simp only [thenK, blockK, reduceIte]
    (repeat refine Sat.seq ?_)
    (refine Sat.region_k fun k hk => ?_; simp -implicitDefEqProofs only [evr, id, reduceCtorEq, reduceIte, Nat.reduceMul, Nat.reduceAdd, Nat.reduceLT, Nat.reduceLeDiff, Nat.reduceEqDiff, Int.reduceLT, Int.reduceBEq, Int.reduceBNe, Nat.reduceBEq, Nat.sub_zero, Option.map_none, ent0, ent1, ent2, ent3, ent4, regS, entS, Ent.cs, tupL, ptr, RgP.s, regs0, mkB_toList, mkB_size, mkB_append, evn]; refine hk _ ?_; clear hk k; try show Sat _ _ _ _ _)
    refine Sat.ret ?_
    simp only [Tryz.results5, evr, id, reduceCtorEq, reduceIte, Nat.reduceMul, Nat.reduceAdd, Nat.reduceLT, Nat.reduceLeDiff, Nat.reduceEqDiff, Int.reduceLT, Int.reduceBEq, Int.reduceBNe, Nat.reduceBEq, List.append_nil, Int.toNat_zero, Nat.sub_self, Nat.sub_zero, Option.map_none, ent0, ent1, ent2, ent3, ent4, regS, entS, Ent.cs, tupL, ptr, RgP.s, regs0, mkB_toList, mkB_size, mkB_append]
  simp only [decide_eq_true_eq] at h2
  have hlt : i < 5 := by omega
  have e1 : IntKind.i64.wrap ((i : Int) + 1) = ((i + 1 : Nat) : Int) := by rw [w64 (by omega)]; omega
  refine Sat.skip ?_
  simp only [thenK]
  (repeat refine Sat.seq ?_)
  refine Sat.block ?_
  (repeat refine Sat.seq ?_)
  (refine Sat.region_k fun k hk => ?_; simp -implicitDefEqProofs only [evr, id, reduceCtorEq, reduceIte, Nat.reduceMul, Nat.reduceAdd, Nat.reduceLT, Nat.reduceLeDiff, Nat.reduceEqDiff, Int.reduceLT, Int.reduceBEq, Int.reduceBNe, Nat.reduceBEq, Nat.sub_zero, Option.map_none, ent0, ent1, ent2, ent3, ent4, regS, entS, Ent.cs, tupL, ptr, RgP.s, regs0, mkB_toList, mkB_size, mkB_append, evn])
  refine ⟨by omega, by omega, ?_⟩
  (refine hk _ ?_; clear hk k; try show Sat _ _ _ _ _)
  have hu := hul i
  generalize us.getD i [] = u at hu ⊢
  (repeat refine Sat.seq ?_)
  (refine Sat.region_k fun k hk => ?_; simp -implicitDefEqProofs only [evr, id, reduceCtorEq, reduceIte, Nat.reduceMul, Nat.reduceAdd, Nat.reduceLT, Nat.reduceLeDiff, Nat.reduceEqDiff, Int.reduceLT, Int.reduceBEq, Int.reduceBNe, Nat.reduceBEq, Nat.sub_zero, Option.map_none, ent0, ent1, ent2, ent3, ent4, regS, entS, Ent.cs, tupL, ptr, RgP.s, regs0, mkB_toList, mkB_size, mkB_append, evn])
  refine wcall_slice ((regParseC u hu).tabT) rfl (by first | rfl | (simp -implicitDefEqProofs only [evr, id, reduceCtorEq, reduceIte, Nat.reduceMul, Nat.reduceAdd, Nat.reduceLT, Nat.reduceLeDiff, Nat.reduceEqDiff, Int.reduceLT, Int.reduceBEq, Int.reduceBNe, Nat.reduceBEq, Nat.sub_zero, Option.map_none, ent0, ent1, ent2, ent3, ent4, regS, entS, Ent.cs, tupL, ptr, RgP.s, regs0, mkB_toList, mkB_size, mkB_append, evn])) ?_
  rintro r ⟨pa, pc, rfl⟩
  simp -implicitDefEqProofs only [evr, id, reduceCtorEq, reduceIte, Nat.reduceMul, Nat.reduceAdd, Nat.reduceLT, Nat.reduceLeDiff, Nat.reduceEqDiff, Int.reduceLT, Int.reduceBEq, Int.reduceBNe, Nat.reduceBEq, Nat.sub_zero, Option.map_none, ent0, ent1, ent2, ent3, ent4, regS, entS, Ent.cs, tupL, ptr, RgP.s, regs0, mkB_toList, mkB_size, mkB_append, evn]
  intro b19
  (refine hk _ ?_; clear hk k; try show Sat _ _ _ _ _)
  refine Sat.settleBox 19 rfl rfl ?_
  (repeat refine Sat.seq ?_)
  (refine Sat.region_k fun k hk => ?_; simp -implicitDefEqProofs only [evr, id, reduceCtorEq, reduceIte, Nat.reduceMul, Nat.reduceAdd, Nat.reduceLT, Nat.reduceLeDiff, Nat.reduceEqDiff, Int.reduceLT, Int.reduceBEq, Int.reduceBNe, Nat.reduceBEq, Nat.sub_zero, Option.map_none, ent0, ent1, ent2, ent3, ent4, regS, entS, Ent.cs, tupL, ptr, RgP.s, regs0, mkB_toList, mkB_size, mkB_append, evn])
  refine wcall_slice ((refParseC u hu).tabT) rfl (by first | rfl | (simp -implicitDefEqProofs only [evr, id, reduceCtorEq, reduceIte, Nat.reduceMul, Nat.reduceAdd, Nat.reduceLT, Nat.reduceLeDiff, Nat.reduceEqDiff, Int.reduceLT, Int.reduceBEq, Int.reduceBNe, Nat.reduceBEq, Nat.sub_zero, Option.map_none, ent0, ent1, ent2, ent3, ent4, regS, entS, Ent.cs, tupL, ptr, RgP.s, regs0, mkB_toList, mkB_size, mkB_append, evn])) ?_
  rintro r ⟨qa, qc, rfl⟩
  simp -implicitDefEqProofs only [evr, id, reduceCtorEq, reduceIte, Nat.reduceMul, Nat.reduceAdd, Nat.reduceLT, Nat.reduceLeDiff, Nat.reduceEqDiff, Int.reduceLT, Int.reduceBEq, Int.reduceBNe, Nat.reduceBEq, Nat.sub_zero, Option.map_none, ent0, ent1, ent2, ent3, ent4, regS, entS, Ent.cs, tupL, ptr, RgP.s, regs0, mkB_toList, mkB_size, mkB_append, evn]
  intro b22
  (refine hk _ ?_; clear hk k; try show Sat _ _ _ _ _)
  refine Sat.settleBox 22 rfl rfl ?_
  (repeat refine Sat.seq ?_)
  have hpl := parV_len u hu
  refine Sat.region_k fun k hk => ?_
  simp -implicitDefEqProofs only [evr, id, reduceCtorEq, reduceIte, Nat.reduceMul, Nat.reduceAdd, Nat.reduceLT, Nat.reduceLeDiff, Nat.reduceEqDiff, Int.reduceLT, Int.reduceBEq, Int.reduceBNe, Nat.reduceBEq, Nat.sub_zero, Option.map_none, ent0, ent1, ent2, ent3, ent4, regS, entS, Ent.cs, tupL, ptr, RgP.s, regs0, mkB_toList, mkB_size, mkB_append, bne_self_eq_false, evn]
  refine wcall_plain (refSameC _ pa qa pc qc (parV u).1 (parV u).1 (by omega)) (by first | done | rfl | (simp -implicitDefEqProofs only [evr, id, reduceCtorEq, reduceIte, Nat.reduceMul, Nat.reduceAdd, Nat.reduceLT, Nat.reduceLeDiff, Nat.reduceEqDiff, Int.reduceLT, Int.reduceBEq, Int.reduceBNe, Nat.reduceBEq, Nat.sub_zero, Option.map_none, ent0, ent1, ent2, ent3, ent4, regS, entS, Ent.cs, tupL, ptr, RgP.s, regs0, mkB_toList, mkB_size, mkB_append, evn]; rfl)) (by rintro _ rfl; exact ok_plain rfl) ?_
  rintro r rfl
  simp only [decide_true, evr, id, reduceCtorEq, reduceIte, Nat.reduceMul, Nat.reduceAdd, Nat.reduceLT, Nat.reduceLeDiff, Nat.reduceEqDiff, Int.reduceLT, Int.reduceBEq, Int.reduceBNe, Nat.reduceBEq, List.append_nil, Int.toNat_zero, Nat.sub_self, Nat.sub_zero, Option.map_none, ent0, ent1, ent2, ent3, ent4, regS, entS, Ent.cs, tupL, ptr, RgP.s, regs0, mkB_toList, mkB_size, mkB_append]
  (refine hk _ ?_; clear hk k; try show Sat _ _ _ _ _)
  (repeat refine Sat.seq ?_)
  refine Sat.cond_b rfl (fun h => absurd h (by decide)) (fun _ => ?_)
  refine Sat.skip ?_
  simp only [thenK, blockK, reduceIte]
  refine Sat.region_k fun k hk => ?_
  simp -implicitDefEqProofs only [evr, id, reduceCtorEq, reduceIte, Nat.reduceMul, Nat.reduceAdd, Nat.reduceLT, Nat.reduceLeDiff, Nat.reduceEqDiff, Int.reduceLT, Int.reduceBEq, Int.reduceBNe, Nat.reduceBEq, Nat.sub_zero, Option.map_none, ent0, ent1, ent2, ent3, ent4, regS, entS, Ent.cs, tupL, ptr, RgP.s, regs0, mkB_toList, mkB_size, mkB_append, e1, evn]
  refine hk _ ?_
  simp only [thenK, blockK]
  refine ⟨i + 1, by omega, by omega, ?_⟩
  simp -implicitDefEqProofs only [evr, id, reduceCtorEq, reduceIte, Nat.reduceMul, Nat.reduceAdd, Nat.reduceLT, Nat.reduceLeDiff, Nat.reduceEqDiff, Int.reduceLT, Int.reduceBEq, Int.reduceBNe, Nat.reduceBEq, Nat.sub_zero, Option.map_none, ent0, ent1, ent2, ent3, ent4, regS, entS, Ent.cs, tupL, ptr, RgP.s, regs0, mkB_toList, mkB_size, mkB_append, evl, evn]
end Go.Proofs.YtepkbbmjbbnhnaaGreatDoor
