import Derived.Test.YtepbdjpcoleegaaGreatCodesE
import Derived.Test.YtepbdjpcoleegaaGreatPk2
import Derived.Test.YtepbdjpcoleegaaGreatPk3
import Derived.Test.YtepbdjpcoleegaaGreatCmG
import Derived.Test.YtepbdjpcoleegaaGreatCnA
import Derived.Test.YtepbdjpcoleegaaGreatPoE
import Derived.Test.YtepbdjpcoleegaaGreatR24F
import Derived.Test.YtepbdjpcoleegaaGreatEpiM
import Derived.Test.YtepbdjpcoleegaaGreatOpenE
import Derived.Test.YtepbdjpcoleegaaGreatCnC
import Derived.Test.YtepbdjpcoleegaaGreatWalkE
import Derived.Test.YtepbdjpcoleegaaGreatShCommonShows

/- Choices: Pick, Bool, Address, by the evaluator. -/
set_option linter.unusedSimpArgs false
set_option linter.unusedVariables false
namespace Go.Proofs.YtepbdjpcoleegaaGreat
open Eng
set_option maxRecDepth 100000 in
theorem pickC (cb : Nat) (a : Option Addr) (len cap : Nat) (rd : Nat → Nat → SV) (Q : Int → Prop) (h0 : 0 < len) (h1 : len ≤ 1000) (hq : ∀ i, i < len → ∃ x : Int, rd i 0 = .i .i64 x ∧ Q x) :
  Contract (Frm.codes cb) Tryz.prog 29 [ptr cb, .sl a len cap 1 rd] (fun r => ∃ x : Int, r = .i .i64 x ∧ Q x) := by
 refine contract_of Tryz.func29 rfl (by kernel_rfl) ?_
 simp only [Tryz.ntmps29, argEnv, ptr]
 (repeat refine Sat.seq ?_)
 (refine Sat.region_k fun k hk => ?_; simp -implicitDefEqProofs only [evr, id, seval, ptr]; refine hk _ ?_; clear hk k; try show Sat _ _ _ _ _)
 (repeat refine Sat.seq ?_)
 (refine Sat.region_k fun k hk => ?_; simp -implicitDefEqProofs only [evr, id, seval, ptr])
 refine wcall_plain (nextC cb len (by omega) (by omega)) rfl (by rintro _ ⟨x, rfl, _⟩; exact ok_plain rfl) ?_
 rintro r ⟨x, rfl, hx0, hx1⟩
 obtain ⟨i, rfl⟩ := Int.eq_ofNat_of_zero_le hx0
 have hi : i < len := by omega
 obtain ⟨y, hy, hQ⟩ := hq i hi
 simp -implicitDefEqProofs only [evr, id, seval, ptr, hy]
 refine ⟨by omega, ?_⟩
 (refine hk _ ?_; clear hk k; try show Sat _ _ _ _ _)
 refine Sat.ret ?_
 simp only [Tryz.results29, evr, id, seval, ptr]
 exact ⟨y, rfl, hQ⟩
theorem pickI (cb blk : Nat) (xs : List Int) (Q : Int → Prop) (h0 : 0 < xs.length) (h1 : xs.length ≤ 1000) (hQ : ∀ x ∈ xs, Q x) :
  Contract (Frm.codes cb) Tryz.prog 29 [ptr cb, .sl (some ⟨blk, 0, none⟩) xs.length xs.length 1 (rdL (xs.map (SV.i .i64)) 1)] (fun r => ∃ x : Int, r = .i .i64 x ∧ Q x) :=
 pickC cb _ _ _ _ Q h0 h1 fun i hi => ⟨xs.getD i 0, by simp [rdL, List.getD, hi], hQ _ (getD_mem hi)⟩
theorem plain_pick {Q : Int → Prop} (r : SV) (h : ∃ x : Int, r = .i .i64 x ∧ Q x) : ∀ R w, r.ok R w := by
 obtain ⟨x, rfl, _⟩ := h; exact ok_plain rfl
theorem plain_bool (r : SV) (h : ∃ b : Bool, r = .b b) : ∀ R w, r.ok R w := by
 obtain ⟨x, rfl⟩ := h; exact ok_plain rfl
set_option maxRecDepth 100000 in
theorem boolC (cb : Nat) (n : Int) (h1 : 1 ≤ n) (h2 : n ≤ 1000000) : Contract (Frm.codes cb) Tryz.prog 27 [ptr cb, .i .i64 n] (fun r => ∃ b : Bool, r = .b b) := by
 refine contract_of Tryz.func27 rfl (by kernel_rfl) ?_
 simp only [Tryz.ntmps27, argEnv, ptr]
 (repeat refine Sat.seq ?_)
 (refine Sat.region_k fun k hk => ?_; simp -implicitDefEqProofs only [evr, id, seval, ptr]; refine hk _ ?_; clear hk k; try show Sat _ _ _ _ _)
 (repeat refine Sat.seq ?_)
 (refine Sat.region_k fun k hk => ?_; simp -implicitDefEqProofs only [evr, id, seval, ptr])
 refine wcall_plain (nextC cb n (by omega) (by omega)) rfl (by rintro _ ⟨x, rfl, _⟩; exact ok_plain rfl) ?_
 rintro r ⟨x, rfl, hx0, hx1⟩
 simp -implicitDefEqProofs only [evr, id, seval, ptr]
 (refine hk _ ?_; clear hk k; try show Sat _ _ _ _ _)
 refine Sat.ret ?_
 simp only [Tryz.results27, evr, id, seval, ptr]
 exact ⟨_, rfl⟩
end Go.Proofs.YtepbdjpcoleegaaGreat


/- Addresses and paths that are drawn (of: Oracles, by the evaluator: dice.Address within its type, dice.Oracle. ) -/
namespace Go.Proofs.YtepbdjpcoleegaaGreat
open Eng
def InA (x : Int) : Prop := 0 ≤ x ∧ x < 4294967296
structure PthP where
 a : Option Addr
 cap : Nat
 p : List Int
instance : Inhabited PthP := ⟨⟨none, 0, []⟩⟩
def adRd (p : List Int) : Nat → Nat → SV := fun i _ => .i .u32 (p.getD i 0)
def PthP.sv (q : PthP) : SV := .sl q.a q.p.length q.cap 1 (adRd q.p)
def psRd (l : List PthP) : Nat → Nat → SV := fun i _ => (l.getD i default).sv
def PsOk (m : Nat) (l : List PthP) : Prop := ∀ q ∈ l, q.p.length ≤ m ∧ ∀ x ∈ q.p, InA x
theorem ad_app {p : List Int} {x : Int} : rdEq (p.length + 1) 1 (rdCat p.length (adRd p) (rdL [.i .u32 x] 1)) (adRd (p ++ [x])) := by
 refine rdEq_snoc (fun i j hi hj => ?_) (fun j hj => ?_)
 ·unfold adRd
  simp [List.getD, List.getElem?_append, hi]
 ·obtain rfl : j = 0 := by omega
  unfold adRd
  simp [List.getD]
theorem ps_app {l : List PthP} {q : PthP} {s : SV} (h : s = q.sv) : rdEq (l.length + 1) 1 (rdCat l.length (psRd l) (rdL [s] 1)) (psRd (l ++ [q])) := by
 subst h
 refine rdEq_snoc (fun i j hi hj => ?_) (fun j hj => ?_)
 ·unfold psRd
  simp [List.getD, List.getElem?_append, hi]
 ·obtain rfl : j = 0 := by omega
  unfold psRd
  simp [List.getD]
theorem wrapA (x : Int) : InA (IntKind.u32.wrap x) := by
 have h : IntKind.u32.wrap x = x % 4294967296 := rfl
 unfold InA
 rw [h]
 omega
set_option maxRecDepth 100000 in
theorem addrC (cb : Nat) : Contract (Frm.codes cb) Tryz.prog 34 [ptr cb] (fun r => ∃ x : Int, InA x ∧ r = .i .u32 x) := by
 refine contract_of Tryz.func34 rfl (by kernel_rfl) ?_
 simp only [Tryz.ntmps34, argEnv, ptr]
 (repeat refine Sat.seq ?_)
 (refine Sat.region_k fun k hk => ?_; simp -implicitDefEqProofs only [evr, id, seval, ptr, PthP.sv, evn]; refine hk _ ?_; clear hk k; try show Sat _ _ _ _ _)
 (repeat refine Sat.seq ?_)
 (refine Sat.region_k fun k hk => ?_; simp -implicitDefEqProofs only [evr, id, seval, ptr, PthP.sv, evn])
 intro blk
 refine wcall_plain (pickI cb blk [1, 2, 5, 6, 9, 10, 12, 13] (fun _ => True) (by decide) (by decide) (by simp)) (by simp -implicitDefEqProofs only [evr, id, seval, ptr, PthP.sv, evn]) plain_pick ?_
 rintro r ⟨x, rfl, _⟩
 simp -implicitDefEqProofs only [evr, id, seval, ptr, PthP.sv, evn]
 (refine hk _ ?_; clear hk k; try show Sat _ _ _ _ _)
 refine Sat.ret ?_
 simp only [Tryz.results34, evr, id, seval, ptr, List.append_nil, Int.toNat_zero, Nat.sub_self, Int.reduceToNat, PthP.sv]
 exact ⟨_, wrapA _, rfl⟩
theorem plain_addrC (r : SV) (h : ∃ x : Int, InA x ∧ r = .i .u32 x) : ∀ R w, r.ok R w := by
 obtain ⟨x, _, rfl⟩ := h; exact ok_plain rfl
end Go.Proofs.YtepbdjpcoleegaaGreat


/- Evidence that is drawn, by the evaluator: dice.Evidence, its addresses in range. -/
namespace Go.Proofs.YtepbdjpcoleegaaGreat
open Go.Sort Eng
set_option maxHeartbeats 1000000 in
set_option maxRecDepth 100000 in
theorem diceEvC (cb : Nat) : Contract (Frm.codes cb) Tryz.prog 16 [ptr cb] (fun r => ∃ e : Evd, (InA e.a ∧ InA e.b) ∧ e.ids.length ≤ 3 ∧ r = evAg e) := by
 refine contract_of Tryz.func16 rfl (by kernel_rfl) ?_
 simp only [Tryz.ntmps16, argEnv, ptr]
 (repeat refine Sat.seq ?_)
 (refine Sat.region_k fun k hk => ?_; simp -implicitDefEqProofs only [evr, id, seval, ptr, res_one, par_one, idn_one, idn_0, idn_1, idn_2, resRow, res_ro, rExtract_tup, par_eq, ev_0, ev_1, ev_2, ev_3, evn])
 intro b2
 (refine hk _ ?_; clear hk k; try show Sat _ _ _ _ _)
 (repeat refine Sat.seq ?_)
 (refine Sat.region_k fun k hk => ?_; simp -implicitDefEqProofs only [evr, id, seval, ptr, res_one, par_one, idn_one, idn_0, idn_1, idn_2, resRow, res_ro, rExtract_tup, par_eq, ev_0, ev_1, ev_2, ev_3, evn])
 refine wcall_plain (nextC cb 3 (by omega) (by omega)) rfl (by rintro _ ⟨x, rfl, _⟩; exact ok_plain rfl) ?_
 rintro r ⟨x, rfl, hx0, hx1⟩
 simp -implicitDefEqProofs only [evr, id, seval, ptr, res_one, par_one, idn_one, idn_0, idn_1, idn_2, resRow, res_ro, rExtract_tup, par_eq, ev_0, ev_1, ev_2, ev_3, evn]
 refine wcall_plain (addrC cb) rfl plain_addrC ?_
 rintro r ⟨a0, ha0, rfl⟩
 simp -implicitDefEqProofs only [evr, id, seval, ptr, res_one, par_one, idn_one, idn_0, idn_1, idn_2, resRow, res_ro, rExtract_tup, par_eq, ev_0, ev_1, ev_2, ev_3, evn]
 refine wcall_plain (addrC cb) rfl plain_addrC ?_
 rintro r ⟨b0, hb0, rfl⟩
 simp -implicitDefEqProofs only [evr, id, seval, ptr, res_one, par_one, idn_one, idn_0, idn_1, idn_2, resRow, res_ro, rExtract_tup, par_eq, ev_0, ev_1, ev_2, ev_3, evn]
 generalize IntKind.i64.wrap (1 + x) = kd
 intro b3
 (refine hk _ ?_; clear hk k; try show Sat _ _ _ _ _)
 refine Sat.adoptBox 1 3 30 3 (idnRd #[]) rfl rfl ?_
 simp -implicitDefEqProofs only [evr, id, seval, ptr, res_one, par_one, idn_one, idn_0, idn_1, idn_2, resRow, res_ro, rExtract_tup, par_eq, ev_0, ev_1, ev_2, ev_3, evn]
 (repeat refine Sat.seq ?_)
 (refine Sat.region_k fun k hk => ?_; simp -implicitDefEqProofs only [evr, id, seval, ptr, res_one, par_one, idn_one, idn_0, idn_1, idn_2, resRow, res_ro, rExtract_tup, par_eq, ev_0, ev_1, ev_2, ev_3, evn]; refine hk _ ?_; clear hk k; try show Sat _ _ _ _ _)
 (repeat refine Sat.seq ?_)
 refine Sat.atF (ι := Int) (fun z => ⟨56, [(3, .op 1 b3 0), (2, .op 0 b2 0), (0, .v (.pointer (some ⟨cb, 0, none⟩)))], [.box b2 28 [.i .i64 0, .i .u32 0, .i .u32 0, .sl none 0 0 0 fun _ _ => .v undef], .box b3 28 [.i .i64 kd, .i .u32 a0, .i .u32 z, .os 2 none 0 0], .row none 30 0 0 3 (idnRd #[])]⟩) InA ?_ ?_
 ·refine Sat.cond_b rfl (fun h => ?_) (fun h => ?_)
  ·(refine Sat.region_k fun k hk => ?_; simp -implicitDefEqProofs only [evr, id, seval, ptr, res_one, par_one, idn_one, idn_0, idn_1, idn_2, resRow, res_ro, rExtract_tup, par_eq, ev_0, ev_1, ev_2, ev_3, evn])
   refine hk _ ?_
   simp only [thenK]
   refine ⟨IntKind.u32.wrap (b0 + 1), wrapA _, ?_⟩
   simp -implicitDefEqProofs only [evr, id, seval, ptr, res_one, par_one, idn_one, idn_0, idn_1, idn_2, resRow, res_ro, rExtract_tup, par_eq, ev_0, ev_1, ev_2, ev_3, evl, evn]
  ·refine Sat.skip ?_
   simp only [thenK]
   refine ⟨b0, hb0, ?_⟩
   simp -implicitDefEqProofs only [evr, id, seval, ptr, res_one, par_one, idn_one, idn_0, idn_1, idn_2, resRow, res_ro, rExtract_tup, par_eq, ev_0, ev_1, ev_2, ev_3, evl, evn]
 rintro b1 hb1
 simp only [thenK]
 (repeat refine Sat.seq ?_)
 (refine Sat.region_k fun k hk => ?_; simp -implicitDefEqProofs only [evr, id, seval, ptr, res_one, par_one, idn_one, idn_0, idn_1, idn_2, resRow, res_ro, rExtract_tup, par_eq, ev_0, ev_1, ev_2, ev_3, evn]; refine hk _ ?_; clear hk k; try show Sat _ _ _ _ _)
 have hbb : InA (max a0 b1) := by unfold InA at *; omega
 have haa : InA (min a0 b1) := by unfold InA at *; omega
 generalize max a0 b1 = bb at hbb ⊢
 generalize min a0 b1 = aa at haa ⊢
 (repeat refine Sat.seq ?_)
 (refine Sat.region_k fun k hk => ?_; simp -implicitDefEqProofs only [evr, id, seval, ptr, res_one, par_one, idn_one, idn_0, idn_1, idn_2, resRow, res_ro, rExtract_tup, par_eq, ev_0, ev_1, ev_2, ev_3, evn])
 refine wcall_plain (nextC cb 5 (by omega) (by omega)) rfl (by rintro _ ⟨x, rfl, _⟩; exact ok_plain rfl) ?_
 rintro r ⟨t0, rfl, _, _⟩
 simp -implicitDefEqProofs only [evr, id, seval, ptr, res_one, par_one, idn_one, idn_0, idn_1, idn_2, resRow, res_ro, rExtract_tup, par_eq, ev_0, ev_1, ev_2, ev_3, evn]
 (refine hk _ ?_; clear hk k; try show Sat _ _ _ _ _)
 (repeat refine Sat.seq ?_)
 (refine Sat.region_k fun k hk => ?_; simp -implicitDefEqProofs only [evr, id, seval, ptr, res_one, par_one, idn_one, idn_0, idn_1, idn_2, resRow, res_ro, rExtract_tup, par_eq, ev_0, ev_1, ev_2, ev_3, evn])
 refine wcall_plain (nextC cb 3 (by omega) (by omega)) rfl (by rintro _ ⟨x, rfl, _⟩; exact ok_plain rfl) ?_
 rintro r ⟨v0, rfl, hv0, hv1⟩
 obtain ⟨v0, rfl⟩ := Int.eq_ofNat_of_zero_le hv0
 simp -implicitDefEqProofs only [evr, id, seval, ptr, res_one, par_one, idn_one, idn_0, idn_1, idn_2, resRow, res_ro, rExtract_tup, par_eq, ev_0, ev_1, ev_2, ev_3, evn]
 (refine hk _ ?_; clear hk k; try show Sat _ _ _ _ _)
 (repeat refine Sat.seq ?_)
 refine Sat.block ?_
 refine Sat.loop (ι := Nat × Int × List Idn × Option Addr × Nat) (fun z => ⟨56, [(5, .i .i64 ((z.1 : Int) - 1)), (4, .i .i64 z.2.1), (3, .op 1 b3 0), (2, .op 0 b2 0), (0, .v (.pointer (some ⟨cb, 0, none⟩)))],
   [.box b2 28 [.i .i64 0, .i .u32 0, .i .u32 0, .sl none 0 0 0 fun _ _ => .v undef], .box b3 28 [.i .i64 kd, .i .u32 aa, .i .u32 bb, .os 2 z.2.2.2.1 z.2.2.1.length z.2.2.2.2], .row z.2.2.2.1 30 z.2.2.1.length z.2.2.2.2 3 (idnRd z.2.2.1.toArray)]⟩)
  (fun z => z.1 + z.2.2.1.length ≤ 3) (fun z => z.1) (v0 + 1, t0, [], none, 0) (by simp only [List.length_nil]; omega) (by
   simp -implicitDefEqProofs only [evr, id, seval, ptr, res_one, par_one, idn_one, idn_0, idn_1, idn_2, resRow, res_ro, rExtract_tup, par_eq, ev_0, ev_1, ev_2, ev_3, evl, evn]
   try exact ⟨by omega, rfl⟩
   try (constructor <;> omega)
   try omega) ?_
 rintro ⟨v, t, l, ra, rc⟩ hv
 simp only at hv ⊢
 (repeat refine Sat.seq ?_)
 (refine Sat.region_k fun k hk => ?_; simp -implicitDefEqProofs only [evr, id, seval, ptr, res_one, par_one, idn_one, idn_0, idn_1, idn_2, resRow, res_ro, rExtract_tup, par_eq, ev_0, ev_1, ev_2, ev_3, evn]; refine hk _ ?_; clear hk k; try show Sat _ _ _ _ _)
 (repeat refine Sat.seq ?_)
 refine Sat.cond_b rfl (fun h => ?_) (fun h => ?_)
 ·have hv2 : 1 ≤ v := by simp only [decide_eq_true_eq] at h; omega
  have e1 : IntKind.i64.wrap ((v : Int) - 1 - 1) = ((v - 1 : Nat) : Int) - 1 := by rw [w64 (by omega)]; omega
  refine Sat.skip ?_
  simp only [thenK]
  (repeat refine Sat.seq ?_)
  refine Sat.block ?_
  (repeat refine Sat.seq ?_)
  (refine Sat.region_k fun k hk => ?_; simp -implicitDefEqProofs only [evr, id, seval, ptr, res_one, par_one, idn_one, idn_0, idn_1, idn_2, resRow, res_ro, rExtract_tup, par_eq, ev_0, ev_1, ev_2, ev_3, evn])
  refine wcall_plain (nextC cb 3 (by omega) (by omega)) rfl (by rintro _ ⟨x, rfl, _⟩; exact ok_plain rfl) ?_
  rintro r ⟨x3, rfl, _, _⟩
  simp -implicitDefEqProofs only [evr, id, seval, ptr, res_one, par_one, idn_one, idn_0, idn_1, idn_2, resRow, res_ro, rExtract_tup, par_eq, ev_0, ev_1, ev_2, ev_3, evn]
  generalize IntKind.i64.wrap (t + IntKind.i64.wrap (1 + x3)) = t2
  (refine hk _ ?_; clear hk k; try show Sat _ _ _ _ _)
  (refine Sat.region_k fun k hk => ?_; simp -implicitDefEqProofs only [evr, id, seval, ptr, res_one, par_one, idn_one, idn_0, idn_1, idn_2, resRow, res_ro, rExtract_tup, par_eq, ev_0, ev_1, ev_2, ev_3, evn])
  intro bs
  refine ⟨⟨by unfold maxLen; omega, by omega⟩, fun a2 c2 => hk _ ?_⟩
  simp only [thenK, blockK]
  refine Sat.region_k fun k hk => ?_
  simp -implicitDefEqProofs only [evr, id, seval, ptr, res_one, par_one, idn_one, idn_0, idn_1, idn_2, resRow, res_ro, rExtract_tup, par_eq, ev_0, ev_1, ev_2, ev_3, e1, evn]
  refine hk _ ?_
  simp only [thenK, blockK]
  refine ⟨(v - 1, t2, l ++ [⟨0, 0, t2⟩], a2, c2), by simp only [List.length_append, List.length_singleton]; omega, by simp only; omega, ?_⟩
  simp only [List.length_append, List.length_singleton]
  simp -implicitDefEqProofs only [evr, id, seval, ptr, res_one, par_one, idn_one, idn_0, idn_1, idn_2, resRow, res_ro, rExtract_tup, par_eq, ev_0, ev_1, ev_2, ev_3, evl, evn]
  exact idn_app rfl
 ·refine Sat.exit ?_
  simp only [thenK, blockK, reduceIte]
  refine Sat.settleLeafF 1 3 rfl rfl rfl ?_
  simp -implicitDefEqProofs only [evr, id, seval, ptr, res_one, par_one, idn_one, idn_0, idn_1, idn_2, resRow, res_ro, rExtract_tup, par_eq, ev_0, ev_1, ev_2, ev_3, evn]
  (repeat refine Sat.seq ?_)
  (refine Sat.region_k fun k hk => ?_; simp -implicitDefEqProofs only [evr, id, seval, ptr, res_one, par_one, idn_one, idn_0, idn_1, idn_2, resRow, res_ro, rExtract_tup, par_eq, ev_0, ev_1, ev_2, ev_3, evn]; refine hk _ ?_; clear hk k; try show Sat _ _ _ _ _)
  refine Sat.ret ?_
  simp only [Tryz.results16, evr, id, seval, ptr, res_one, par_one, idn_one, idn_0, idn_1, idn_2, List.append_nil, Int.toNat_zero, Nat.sub_self, Int.reduceToNat, resRow, res_ro, rExtract_tup, par_eq, ev_0, ev_1, ev_2, ev_3]
  exact ⟨⟨kd, aa, bb, l, ra, rc⟩, ⟨haa, hbb⟩, by show l.length ≤ 3; omega, rfl⟩
end Go.Proofs.YtepbdjpcoleegaaGreat


/- Identities and lists of evidence that are drawn, by the evaluator: dice.ID, IDs, List. -/
namespace Go.Proofs.YtepbdjpcoleegaaGreat
open Go.Sort Eng
set_option maxRecDepth 100000 in
theorem diceIdC (cb : Nat) (ad : Option Addr) (cap : Nat) (xs : List Res) (hl : xs.length ≤ 1000) :
  Contract (Frm.codes cb) Tryz.prog 7 [ptr cb, .sl ad xs.length cap 17 (resRd xs.toArray)] (fun r => ∃ d : Idn, r = idnAg d) := by
 refine contract_of Tryz.func7 rfl (by kernel_rfl) ?_
 simp only [Tryz.ntmps7, argEnv, ptr]
 (repeat refine Sat.seq ?_)
 (refine Sat.region_k fun k hk => ?_; simp -implicitDefEqProofs only [evr, id, seval, ptr, res_one, par_one, idn_one, idn_0, idn_1, idn_2, resRow, res_ro, rExtract_tup, par_eq, idAg, evn])
 intro b4
 (refine hk _ ?_; clear hk k; try show Sat _ _ _ _ _)
 (repeat refine Sat.seq ?_)
 refine Sat.joinK (ι := Bool) (fun q => ⟨27, [(11, .b q), (4, .op 0 b4 0), (0, .v (.pointer (some ⟨cb, 0, none⟩))), (1, .sl ad xs.length cap 17 (resRd xs.toArray))], [.box b4 30 [.i .i64 0, .i .i64 0, .i .i64 0]]⟩)
  (fun q => q = false → 0 < xs.length) (fun hrest => ?_) ?_
 ·(refine Sat.region_k fun k hk => ?_; simp -implicitDefEqProofs only [evr, id, seval, ptr, res_one, par_one, idn_one, idn_0, idn_1, idn_2, resRow, res_ro, rExtract_tup, par_eq, idAg, evn])
  refine ⟨fun g1 => ?_, fun g1 => ?_⟩
  ·refine hk _ ?_
   simp only [thenK]
   refine (hrest true (fun h => by cases h)).le ?_
   simp -implicitDefEqProofs only [evr, id, seval, ptr, res_one, par_one, idn_one, idn_0, idn_1, idn_2, resRow, res_ro, rExtract_tup, par_eq, idAg, evl, evn]
  ·refine wcall_plain (boolC cb 6 (by decide) (by decide)) rfl plain_bool ?_
   rintro r ⟨q, rfl⟩
   simp -implicitDefEqProofs only [evr, id, seval, ptr, res_one, par_one, idn_one, idn_0, idn_1, idn_2, resRow, res_ro, rExtract_tup, par_eq, idAg, evn]
   refine hk _ ?_
   simp only [thenK]
   refine (hrest q (fun _ => by rw [beq_eq_false_iff_ne] at g1; omega)).le ?_
   simp -implicitDefEqProofs only [evr, id, seval, ptr, res_one, par_one, idn_one, idn_0, idn_1, idn_2, resRow, res_ro, rExtract_tup, par_eq, idAg, evl, evn]
 rintro q hq
 (repeat refine Sat.seq ?_)
 refine Sat.cond_b rfl (fun h => ?_) (fun h => ?_)
 ·(repeat refine Sat.seq ?_)
  (refine Sat.region_k fun k hk => ?_; simp -implicitDefEqProofs only [evr, id, seval, ptr, res_one, par_one, idn_one, idn_0, idn_1, idn_2, resRow, res_ro, rExtract_tup, par_eq, idAg, evn])
  refine wcall_plain (nextC cb 2 (by omega) (by omega)) rfl (by rintro _ ⟨x, rfl, _⟩; exact ok_plain rfl) ?_
  rintro r ⟨x, rfl, _, _⟩
  simp -implicitDefEqProofs only [evr, id, seval, ptr, res_one, par_one, idn_one, idn_0, idn_1, idn_2, resRow, res_ro, rExtract_tup, par_eq, idAg, evn]
  refine wcall_plain (nextC cb 2 (by omega) (by omega)) rfl (by rintro _ ⟨x, rfl, _⟩; exact ok_plain rfl) ?_
  rintro r ⟨y, rfl, _, _⟩
  simp -implicitDefEqProofs only [evr, id, seval, ptr, res_one, par_one, idn_one, idn_0, idn_1, idn_2, resRow, res_ro, rExtract_tup, par_eq, idAg, evn]
  refine wcall_plain (nextC cb 5 (by omega) (by omega)) rfl (by rintro _ ⟨x, rfl, _⟩; exact ok_plain rfl) ?_
  rintro r ⟨z, rfl, _, _⟩
  simp -implicitDefEqProofs only [evr, id, seval, ptr, res_one, par_one, idn_one, idn_0, idn_1, idn_2, resRow, res_ro, rExtract_tup, par_eq, idAg, evn]
  (refine hk _ ?_; clear hk k; try show Sat _ _ _ _ _)
  refine Sat.ret ?_
  simp only [Tryz.results7, evr, id, seval, ptr, res_one, par_one, idn_one, idn_0, idn_1, idn_2, List.append_nil, Int.toNat_zero, Nat.sub_self, Int.reduceToNat, resRow, res_ro, rExtract_tup, par_eq, idAg]
  exact ⟨⟨x, y, z⟩, rfl⟩
 have hpos := hq h
 refine Sat.skip ?_
 simp only [thenK]
 (repeat refine Sat.seq ?_)
 (refine Sat.region_k fun k hk => ?_; simp -implicitDefEqProofs only [evr, id, seval, ptr, res_one, par_one, idn_one, idn_0, idn_1, idn_2, resRow, res_ro, rExtract_tup, par_eq, idAg, evn])
 refine wcall_plain (nextC cb xs.length (by omega) (by omega)) (by simp -implicitDefEqProofs only [evr, id, seval, ptr, res_one, par_one, idn_one, idn_0, idn_1, idn_2, resRow, res_ro, rExtract_tup, par_eq, idAg, evn]) (by rintro _ ⟨x, rfl, _⟩; exact ok_plain rfl) ?_
 rintro r ⟨x, rfl, hx0, hx1⟩
 obtain ⟨i, rfl⟩ := Int.eq_ofNat_of_zero_le hx0
 have hi : i < xs.length := by omega
 simp -implicitDefEqProofs only [evr, id, seval, ptr, res_one, par_one, idn_one, idn_0, idn_1, idn_2, resRow, res_ro, rExtract_tup, par_eq, idAg, evn]
 refine ⟨by omega, ?_⟩
 refine wcall_plain (identG (Frm.codes cb) xs.toArray[i]!) rfl (by rintro _ rfl; intro R w q hq; rcases (show q = 0 ∨ q = 1 ∨ q = 2 by omega) with rfl | rfl | rfl <;> trivial) ?_
 rintro _ rfl
 simp -implicitDefEqProofs only [evr, id, seval, ptr, res_one, par_one, idn_one, idn_0, idn_1, idn_2, resRow, res_ro, rExtract_tup, par_eq, idAg, evn]
 (refine hk _ ?_; clear hk k; try show Sat _ _ _ _ _)
 refine Sat.ret ?_
 simp only [Tryz.results7, evr, id, seval, ptr, res_one, par_one, idn_one, idn_0, idn_1, idn_2, List.append_nil, Int.toNat_zero, Nat.sub_self, Int.reduceToNat, resRow, res_ro, rExtract_tup, par_eq, idAg]
 exact ⟨(xs.toArray[i]!).idn, rfl⟩
set_option maxRecDepth 100000 in
theorem diceIdsC (cb : Nat) (ad : Option Addr) (cap : Nat) (xs : List Res) (most : Nat) (hl : xs.length ≤ 1000) (hm : most ≤ 100) :
  ContractN (Frm.codes cb) Tryz.prog 17 [ptr cb, .sl ad xs.length cap 17 (resRd xs.toArray), .i .i64 most] (fun o => ∃ (a : Option Addr) (c : Nat) (ids : List Idn), ids.length ≤ most ∧ o = .row a 30 ids.length c 3 (idnRd ids.toArray)) := by
 refine contractN_of Tryz.func17 rfl (by kernel_rfl) ?_
 simp only [Tryz.ntmps17, argEnv, ptr]
 (repeat refine Sat.seq ?_)
 (refine Sat.region_k fun k hk => ?_; simp -implicitDefEqProofs only [evr, id, seval, ptr, res_one, par_one, idn_one, idn_0, idn_1, idn_2, resRow, res_ro, rExtract_tup, par_eq, idAg, evn]; refine hk _ ?_; clear hk k; try show Sat _ _ _ _ _)
 (repeat refine Sat.seq ?_)
 (refine Sat.region_k fun k hk => ?_; simp -implicitDefEqProofs only [evr, id, seval, ptr, res_one, par_one, idn_one, idn_0, idn_1, idn_2, resRow, res_ro, rExtract_tup, par_eq, idAg, evn]; refine hk _ ?_; clear hk k; try show Sat _ _ _ _ _)
 have e1 : IntKind.i64.wrap ((most : Int) + 1) = (most : Int) + 1 := w64 (by omega)
 (repeat refine Sat.seq ?_)
 (refine Sat.region_k fun k hk => ?_; simp -implicitDefEqProofs only [evr, id, seval, ptr, res_one, par_one, idn_one, idn_0, idn_1, idn_2, resRow, res_ro, rExtract_tup, par_eq, idAg, evn])
 refine wcall_plain (nextC cb ((most : Int) + 1) (by omega) (by omega)) (by simp -implicitDefEqProofs only [evr, id, seval, ptr, res_one, par_one, idn_one, idn_0, idn_1, idn_2, resRow, res_ro, rExtract_tup, par_eq, idAg, e1, evn]) (by rintro _ ⟨x, rfl, _⟩; exact ok_plain rfl) ?_
 rintro r ⟨x, rfl, hx0, hx1⟩
 obtain ⟨k0, rfl⟩ := Int.eq_ofNat_of_zero_le hx0
 simp -implicitDefEqProofs only [evr, id, seval, ptr, res_one, par_one, idn_one, idn_0, idn_1, idn_2, resRow, res_ro, rExtract_tup, par_eq, idAg, evn]
 (refine hk _ ?_; clear hk k; try show Sat _ _ _ _ _)
 refine Sat.adopt 7 30 3 (idnRd #[]) rfl ?_
 simp -implicitDefEqProofs only [evr, id, seval, ptr, res_one, par_one, idn_one, idn_0, idn_1, idn_2, resRow, res_ro, rExtract_tup, par_eq, idAg, evn]
 (repeat refine Sat.seq ?_)
 refine Sat.block ?_
 refine Sat.loop (ι := Nat × Option Addr × Nat × List Idn) (fun z => ⟨24, [(8, .i .i64 z.1), (7, .os 0 z.2.1 z.2.2.2.length z.2.2.1), (0, .v (.pointer (some ⟨cb, 0, none⟩))), (1, .sl ad xs.length cap 17 (resRd xs.toArray))], [.row z.2.1 30 z.2.2.2.length z.2.2.1 3 (idnRd z.2.2.2.toArray)]⟩)
  (fun z => z.2.2.2.length + z.1 ≤ most) (fun z => z.1) (k0, none, 0, []) (by simp only [List.length_nil]; omega) (by simp -implicitDefEqProofs only [evr, id, seval, ptr, res_one, par_one, idn_one, idn_0, idn_1, idn_2, resRow, res_ro, rExtract_tup, par_eq, idAg, evl, evn]; try rfl) ?_
 rintro ⟨m, a, c, ids⟩ hm2
 simp only at hm2 ⊢
 (repeat refine Sat.seq ?_)
 (refine Sat.region_k fun k hk => ?_; simp -implicitDefEqProofs only [evr, id, seval, ptr, res_one, par_one, idn_one, idn_0, idn_1, idn_2, resRow, res_ro, rExtract_tup, par_eq, idAg, evn]; refine hk _ ?_; clear hk k; try show Sat _ _ _ _ _)
 (repeat refine Sat.seq ?_)
 refine Sat.cond_b rfl (fun h => ?_) (fun h => ?_)
 ·have h1 : 0 < m := by simp only [decide_eq_true_eq] at h; omega
  have e2 : IntKind.i64.wrap ((m : Int) - 1) = ((m - 1 : Nat) : Int) := by rw [w64 (by omega)]; omega
  refine Sat.skip ?_
  simp only [thenK]
  (repeat refine Sat.seq ?_)
  refine Sat.block ?_
  (repeat refine Sat.seq ?_)
  (refine Sat.region_k fun k hk => ?_; simp -implicitDefEqProofs only [evr, id, seval, ptr, res_one, par_one, idn_one, idn_0, idn_1, idn_2, resRow, res_ro, rExtract_tup, par_eq, idAg, evn])
  refine wcall_plain (diceIdC cb ad cap xs hl) rfl (by rintro _ ⟨d, rfl⟩; exact ok_aggL (l := Idn.cs d) rfl) ?_
  rintro r ⟨d, rfl⟩
  simp only [idnAg, Idn.cs, evr, id, seval, ptr, res_one, par_one, idn_one, idn_0, idn_1, idn_2, List.append_nil, Int.toNat_zero, Nat.sub_self, Int.reduceToNat, resRow, res_ro, rExtract_tup, par_eq, idAg]
  intro b9
  refine ⟨⟨by unfold maxLen; omega, by omega⟩, fun a2 c2 => hk _ ?_⟩
  clear hk k
  simp only [thenK, blockK]
  refine Sat.region_k fun k hk => ?_
  simp -implicitDefEqProofs only [evr, id, seval, ptr, res_one, par_one, idn_one, idn_0, idn_1, idn_2, resRow, res_ro, rExtract_tup, par_eq, idAg, e2, evn]
  refine hk _ ?_
  simp only [thenK, blockK]
  refine ⟨(m - 1, a2, c2, ids ++ [d]), by simp only [List.length_append, List.length_singleton]; omega, by simp only; omega, ?_⟩
  simp only [List.length_append, List.length_singleton]
  simp -implicitDefEqProofs only [evr, id, seval, ptr, res_one, par_one, idn_one, idn_0, idn_1, idn_2, resRow, res_ro, rExtract_tup, par_eq, idAg, evl, evn]
  exact idn_app rfl
 refine Sat.exit ?_
 simp only [thenK, blockK, reduceIte]
 (repeat refine Sat.seq ?_)
 (refine Sat.region_k fun k hk => ?_; simp -implicitDefEqProofs only [evr, id, seval, ptr, res_one, par_one, idn_one, idn_0, idn_1, idn_2, resRow, res_ro, rExtract_tup, par_eq, idAg, evn]; refine hk _ ?_; clear hk k; try show Sat _ _ _ _ _)
 refine Sat.ret ?_
 simp only [Tryz.results17, evr, id, seval, ptr, res_one, par_one, idn_one, idn_0, idn_1, idn_2, List.append_nil, Int.toNat_zero, Nat.sub_self, Int.reduceToNat, resRow, res_ro, rExtract_tup, par_eq, idAg, retN, retNK, newRow]
 exact ⟨⟨rfl, rfl, rfl⟩, a, c, ids, by omega, rfl⟩
theorem ev_app {es : List Evd} {e : Evd} {cs : List SV} (h : cs = Evd.cs e) : rdEq (es.length + 1) 4 (rdCat es.length (evRd es) (rdL cs 4)) (evRd (es ++ [e])) := by
 subst h
 refine rdEq_snoc (fun i j hi hj => ?_) (fun j hj => ?_)
 ·unfold evRd
  simp [List.getD, List.getElem?_append, hi]
 ·unfold evRd
  simp [List.getD]
set_option maxRecDepth 100000 in
theorem diceListC (cb : Nat) (most : Nat) (hm : most ≤ 100) :
  ContractN (Frm.codes cb) Tryz.prog 18 [ptr cb, .i .i64 most] (fun o => ∃ (a : Option Addr) (c : Nat) (es : List Evd), (∀ e ∈ es, (InA e.a ∧ InA e.b) ∧ e.ids.length ≤ 3) ∧ es.length ≤ most ∧ o = .row a 28 es.length c 4 (evRd es)) := by
 refine contractN_of Tryz.func18 rfl (by kernel_rfl) ?_
 simp only [Tryz.ntmps18, argEnv, ptr]
 (repeat refine Sat.seq ?_)
 (refine Sat.region_k fun k hk => ?_; simp -implicitDefEqProofs only [evr, id, seval, ptr, res_one, par_one, idn_one, idn_0, idn_1, idn_2, resRow, res_ro, rExtract_tup, par_eq, idAg, evn]; refine hk _ ?_; clear hk k; try show Sat _ _ _ _ _)
 (repeat refine Sat.seq ?_)
 (refine Sat.region_k fun k hk => ?_; simp -implicitDefEqProofs only [evr, id, seval, ptr, res_one, par_one, idn_one, idn_0, idn_1, idn_2, resRow, res_ro, rExtract_tup, par_eq, idAg, evn]; refine hk _ ?_; clear hk k; try show Sat _ _ _ _ _)
 have e1 : IntKind.i64.wrap ((most : Int) + 1) = (most : Int) + 1 := w64 (by omega)
 (repeat refine Sat.seq ?_)
 (refine Sat.region_k fun k hk => ?_; simp -implicitDefEqProofs only [evr, id, seval, ptr, res_one, par_one, idn_one, idn_0, idn_1, idn_2, resRow, res_ro, rExtract_tup, par_eq, idAg, evn])
 refine wcall_plain (nextC cb ((most : Int) + 1) (by omega) (by omega)) (by simp -implicitDefEqProofs only [evr, id, seval, ptr, res_one, par_one, idn_one, idn_0, idn_1, idn_2, resRow, res_ro, rExtract_tup, par_eq, idAg, e1, evn]) (by rintro _ ⟨x, rfl, _⟩; exact ok_plain rfl) ?_
 rintro r ⟨x, rfl, hx0, hx1⟩
 obtain ⟨k0, rfl⟩ := Int.eq_ofNat_of_zero_le hx0
 simp -implicitDefEqProofs only [evr, id, seval, ptr, res_one, par_one, idn_one, idn_0, idn_1, idn_2, resRow, res_ro, rExtract_tup, par_eq, idAg, evn]
 (refine hk _ ?_; clear hk k; try show Sat _ _ _ _ _)
 refine Sat.adopt 5 28 4 (evRd []) rfl ?_
 simp -implicitDefEqProofs only [evr, id, seval, ptr, res_one, par_one, idn_one, idn_0, idn_1, idn_2, resRow, res_ro, rExtract_tup, par_eq, idAg, evn]
 (repeat refine Sat.seq ?_)
 refine Sat.block ?_
 refine Sat.loop (ι := Nat × Option Addr × Nat × List Evd) (fun z => ⟨21, [(6, .i .i64 z.1), (5, .os 0 z.2.1 z.2.2.2.length z.2.2.1), (0, .v (.pointer (some ⟨cb, 0, none⟩)))], [.row z.2.1 28 z.2.2.2.length z.2.2.1 4 (evRd z.2.2.2)]⟩)
  (fun z => z.2.2.2.length + z.1 ≤ most ∧ ∀ e ∈ z.2.2.2, (InA e.a ∧ InA e.b) ∧ e.ids.length ≤ 3) (fun z => z.1) (k0, none, 0, []) ⟨by simp only [List.length_nil]; omega, fun e he => by cases he⟩ (by simp -implicitDefEqProofs only [evr, id, seval, ptr, res_one, par_one, idn_one, idn_0, idn_1, idn_2, resRow, res_ro, rExtract_tup, par_eq, idAg, evl, evn]; try rfl) ?_
 rintro ⟨m, a, c, es⟩ ⟨hm2, hes⟩
 simp only at hm2 hes ⊢
 (repeat refine Sat.seq ?_)
 (refine Sat.region_k fun k hk => ?_; simp -implicitDefEqProofs only [evr, id, seval, ptr, res_one, par_one, idn_one, idn_0, idn_1, idn_2, resRow, res_ro, rExtract_tup, par_eq, idAg, evn]; refine hk _ ?_; clear hk k; try show Sat _ _ _ _ _)
 (repeat refine Sat.seq ?_)
 refine Sat.cond_b rfl (fun h => ?_) (fun h => ?_)
 ·have h1 : 0 < m := by simp only [decide_eq_true_eq] at h; omega
  have e2 : IntKind.i64.wrap ((m : Int) - 1) = ((m - 1 : Nat) : Int) := by rw [w64 (by omega)]; omega
  refine Sat.skip ?_
  simp only [thenK]
  (repeat refine Sat.seq ?_)
  refine Sat.block ?_
  (repeat refine Sat.seq ?_)
  (refine Sat.region_k fun k hk => ?_; simp -implicitDefEqProofs only [evr, id, seval, ptr, res_one, par_one, idn_one, idn_0, idn_1, idn_2, resRow, res_ro, rExtract_tup, par_eq, idAg, evn])
  refine wcall_slice (diceEvC cb) rfl rfl ?_
  rintro r ⟨e, he1, he2, rfl⟩
  simp only [evAg, Evd.cs, evr, id, seval, ptr, res_one, par_one, idn_one, idn_0, idn_1, idn_2, List.append_nil, Int.toNat_zero, Nat.sub_self, Int.reduceToNat, resRow, res_ro, rExtract_tup, par_eq, idAg]
  intro b9
  refine ⟨⟨by unfold maxLen; omega, by omega⟩, fun a2 c2 => hk _ ?_⟩
  clear hk k
  simp only [thenK, blockK]
  refine Sat.region_k fun k hk => ?_
  simp -implicitDefEqProofs only [evr, id, seval, ptr, res_one, par_one, idn_one, idn_0, idn_1, idn_2, resRow, res_ro, rExtract_tup, par_eq, idAg, e2, evn]
  refine hk _ ?_
  simp only [thenK, blockK]
  refine ⟨(m - 1, a2, c2, es ++ [e]), ⟨by simp only [List.length_append, List.length_singleton]; omega, fun f hf => ?_⟩, by simp only; omega, ?_⟩
  ·rcases List.mem_append.1 hf with h9 | h9
   ·exact hes f h9
   ·rw [List.mem_singleton.1 h9]; exact ⟨he1, he2⟩
  simp only [List.length_append, List.length_singleton]
  simp -implicitDefEqProofs only [evr, id, seval, ptr, res_one, par_one, idn_one, idn_0, idn_1, idn_2, resRow, res_ro, rExtract_tup, par_eq, idAg, evl, evn]
  exact ev_app rfl
 refine Sat.exit ?_
 simp only [thenK, blockK, reduceIte]
 (repeat refine Sat.seq ?_)
 (refine Sat.region_k fun k hk => ?_; simp -implicitDefEqProofs only [evr, id, seval, ptr, res_one, par_one, idn_one, idn_0, idn_1, idn_2, resRow, res_ro, rExtract_tup, par_eq, idAg, evn]; refine hk _ ?_; clear hk k; try show Sat _ _ _ _ _)
 refine Sat.ret ?_
 simp only [Tryz.results18, evr, id, seval, ptr, res_one, par_one, idn_one, idn_0, idn_1, idn_2, List.append_nil, Int.toNat_zero, Nat.sub_self, Int.reduceToNat, resRow, res_ro, rExtract_tup, par_eq, idAg, retN, retNK, newRow]
 exact ⟨⟨rfl, rfl, rfl⟩, a, c, es, hes, by omega, rfl⟩
end Go.Proofs.YtepbdjpcoleegaaGreat


/- Choices of results, by the evaluator. -/
namespace Go.Proofs.YtepbdjpcoleegaaGreat
open Go.Sort Eng
theorem plain_intU (r : SV) (h : ∃ x : Int, r = .i .i64 x) : ∀ R w, r.ok R w := by
 obtain ⟨x, rfl⟩ := h; exact ok_plain rfl
def u32 (x : Int) : Prop := 0 ≤ x ∧ x < 4294967296
theorem u32_wrap (x : Int) : u32 (IntKind.u32.wrap x) := by
 simp only [u32, IntKind.wrap, IntKind.signed, IntKind.bits, Bool.false_and, Bool.false_eq_true, if_false]
 omega
theorem u32_keep {x : Int} (h : u32 x) : IntKind.i64.wrap x = x := by
 unfold u32 at h
 exact w64 (by omega)
def wfR (x : Res) : Prop := u32 x.dst ∧ u32 x.from_
theorem plain_addrU (r : SV) (h : ∃ x : Int, r = .i .u32 x ∧ u32 x) : ∀ R w, r.ok R w := by
 obtain ⟨x, rfl, _⟩ := h; exact ok_plain rfl
theorem plain_nextU {n : Int} (r : SV) (h : ∃ x : Int, r = .i .i64 x ∧ 0 ≤ x ∧ (x < n ∨ x = 0)) : ∀ R w, r.ok R w := by
 obtain ⟨x, rfl, _⟩ := h; exact ok_plain rfl
theorem ints_at (xs : List Int) (i : Nat) (h : i < xs.length) : rdL (xs.map (SV.i .i64)) 1 i 0 = .i .i64 (xs.getD i 0) := by simp [rdL, List.getD, h]
set_option maxRecDepth 100000 in
theorem addressRC (cb : Nat) : Contract (Frm.codes cb) Tryz.prog 57 [ptr cb] (fun r => ∃ x : Int, r = .i .u32 x ∧ u32 x) := by
 refine contract_of Tryz.func57 rfl (by kernel_rfl) ?_
 simp only [Tryz.ntmps57, argEnv, ptr]
 (repeat refine Sat.seq ?_)
 (refine Sat.region_k fun k hk => ?_; simp -implicitDefEqProofs only [evr, id, seval, ptr, res_one, resRow, evn]; refine hk _ ?_; clear hk k; try show Sat _ _ _ _ _)
 (repeat refine Sat.seq ?_)
 (refine Sat.region_k fun k hk => ?_; simp -implicitDefEqProofs only [evr, id, seval, ptr, res_one, resRow, evn])
 refine wcall_plain (nextC cb 12 (by decide) (by decide)) rfl plain_nextU ?_
 rintro r ⟨x1, rfl, _⟩
 simp -implicitDefEqProofs only [evr, id, seval, ptr, res_one, resRow, evn]
 (refine hk _ ?_; clear hk k; try show Sat _ _ _ _ _)
 (repeat refine Sat.seq ?_)
 refine Sat.cond_b rfl (fun _ => ?_) (fun _ => ?_)
 ·(repeat refine Sat.seq ?_)
  (refine Sat.region_k fun k hk => ?_; simp -implicitDefEqProofs only [evr, id, seval, ptr, res_one, resRow, evn])
  refine wcall_plain (nextC cb 65536 (by decide) (by decide)) rfl plain_nextU ?_
  rintro r ⟨x2, rfl, _⟩
  simp -implicitDefEqProofs only [evr, id, reduceCtorEq, reduceIte, Nat.reduceMul, Nat.reduceAdd, Nat.reduceLT, Nat.reduceLeDiff, Nat.reduceEqDiff, Int.reduceLT, Int.reduceBEq, Int.reduceBNe, Nat.reduceBEq, ptr, res_one, resRow, evn]
  refine ⟨by decide, ?_⟩
  refine wcall_plain (nextC cb 65536 (by decide) (by decide)) rfl plain_nextU ?_
  rintro r ⟨x3, rfl, _⟩
  simp -implicitDefEqProofs only [evr, id, seval, ptr, res_one, resRow, evn]
  (refine hk _ ?_; clear hk k; try show Sat _ _ _ _ _)
  refine Sat.ret ?_
  simp only [Tryz.results57, evr, id, reduceCtorEq, reduceIte, Nat.reduceMul, Nat.reduceAdd, Nat.reduceLT, Nat.reduceLeDiff, Nat.reduceEqDiff, Int.reduceLT, Int.reduceBEq, Int.reduceBNe, Nat.reduceBEq, ptr, List.append_nil, Int.toNat_zero, Nat.sub_self, res_one, resRow]
  exact ⟨_, rfl, u32_wrap _⟩
 ·refine Sat.skip ?_
  simp only [thenK]
  (repeat refine Sat.seq ?_)
  (refine Sat.region_k fun k hk => ?_; simp -implicitDefEqProofs only [evr, id, seval, ptr, res_one, resRow, evn])
  refine wcall_plain (nextC cb 3 (by decide) (by decide)) rfl plain_nextU ?_
  rintro r ⟨x2, rfl, _⟩
  simp -implicitDefEqProofs only [evr, id, reduceCtorEq, reduceIte, Nat.reduceMul, Nat.reduceAdd, Nat.reduceLT, Nat.reduceLeDiff, Nat.reduceEqDiff, Int.reduceLT, Int.reduceBEq, Int.reduceBNe, Nat.reduceBEq, ptr, res_one, resRow, evn]
  refine ⟨by decide, ?_⟩
  refine wcall_plain (nextC cb 8 (by decide) (by decide)) rfl plain_nextU ?_
  rintro r ⟨x3, rfl, _⟩
  simp -implicitDefEqProofs only [evr, id, seval, ptr, res_one, resRow, evn]
  (refine hk _ ?_; clear hk k; try show Sat _ _ _ _ _)
  refine Sat.ret ?_
  simp only [Tryz.results57, evr, id, reduceCtorEq, reduceIte, Nat.reduceMul, Nat.reduceAdd, Nat.reduceLT, Nat.reduceLeDiff, Nat.reduceEqDiff, Int.reduceLT, Int.reduceBEq, Int.reduceBNe, Nat.reduceBEq, ptr, List.append_nil, Int.toNat_zero, Nat.sub_self, res_one, resRow]
  exact ⟨_, rfl, u32_wrap _⟩
set_option maxRecDepth 100000 in
theorem protoRC (cb : Nat) : Contract (Frm.codes cb) Tryz.prog 58 [ptr cb] (fun r => ∃ x : Int, r = .i .i64 x) := by
 refine contract_of Tryz.func58 rfl (by kernel_rfl) ?_
 simp only [Tryz.ntmps58, argEnv, ptr]
 (repeat refine Sat.seq ?_)
 (refine Sat.region_k fun k hk => ?_; simp -implicitDefEqProofs only [evr, id, seval, ptr, res_one, resRow, evn]; refine hk _ ?_; clear hk k; try show Sat _ _ _ _ _)
 (repeat refine Sat.seq ?_)
 (refine Sat.region_k fun k hk => ?_; simp -implicitDefEqProofs only [evr, id, seval, ptr, res_one, resRow, evn])
 intro blk
 refine wcall_plain (nextC cb 3 (by decide) (by decide)) rfl plain_nextU ?_
 rintro r ⟨x, rfl, hx0, hx1⟩
 obtain ⟨i, rfl⟩ := Int.eq_ofNat_of_zero_le hx0
 have e := ints_at [17, 1, 6] i (by show i < 3; omega)
 simp only [List.map_cons, List.map_nil] at e
 simp -implicitDefEqProofs only [evr, id, seval, ptr, res_one, resRow, e, evn]
 refine ⟨by omega, by omega, ?_⟩
 (refine hk _ ?_; clear hk k; try show Sat _ _ _ _ _)
 refine Sat.ret ?_
 simp only [Tryz.results58, evr, id, reduceCtorEq, reduceIte, Nat.reduceMul, Nat.reduceAdd, Nat.reduceLT, Nat.reduceLeDiff, Nat.reduceEqDiff, Int.reduceLT, Int.reduceBEq, Int.reduceBNe, Nat.reduceBEq, ptr, List.append_nil, Int.toNat_zero, Nat.sub_self, res_one, resRow]
 exact ⟨_, rfl⟩
set_option maxRecDepth 100000 in
theorem intRC (cb : Nat) : Contract (Frm.codes cb) Tryz.prog 59 [ptr cb] (fun r => ∃ x : Int, r = .i .i64 x) := by
 refine contract_of Tryz.func59 rfl (by kernel_rfl) ?_
 simp only [Tryz.ntmps59, argEnv, ptr]
 (repeat refine Sat.seq ?_)
 (refine Sat.region_k fun k hk => ?_; simp -implicitDefEqProofs only [evr, id, seval, ptr, res_one, resRow, evn]; refine hk _ ?_; clear hk k; try show Sat _ _ _ _ _)
 (repeat refine Sat.seq ?_)
 (refine Sat.region_k fun k hk => ?_; simp -implicitDefEqProofs only [evr, id, seval, ptr, res_one, resRow, evn])
 refine wcall_plain (nextC cb 10 (by decide) (by decide)) rfl plain_nextU ?_
 rintro r ⟨x1, rfl, _⟩
 simp -implicitDefEqProofs only [evr, id, seval, ptr, res_one, resRow, evn]
 (refine hk _ ?_; clear hk k; try show Sat _ _ _ _ _)
 (repeat refine Sat.seq ?_)
 refine Sat.block ?_
 (repeat refine Sat.seq ?_)
 (refine Sat.region_k fun k hk => ?_; simp -implicitDefEqProofs only [evr, id, seval, ptr, res_one, resRow, evn]; refine hk _ ?_; clear hk k; try show Sat _ _ _ _ _)
 (repeat refine Sat.seq ?_)
 refine Sat.cond_b rfl (fun _ => ?_) (fun _ => ?_)
 ·(repeat refine Sat.seq ?_)
  (refine Sat.region_k fun k hk => ?_; simp -implicitDefEqProofs only [evr, id, seval, ptr, res_one, resRow, evn])
  refine wcall_plain (nextC cb 3 (by decide) (by decide)) rfl plain_nextU ?_
  rintro r ⟨x2, rfl, _⟩
  simp -implicitDefEqProofs only [evr, id, seval, ptr, res_one, resRow, evn]
  (refine hk _ ?_; clear hk k; try show Sat _ _ _ _ _)
  refine Sat.ret ?_
  simp only [blockK, Tryz.results59, evr, id, reduceCtorEq, reduceIte, Nat.reduceMul, Nat.reduceAdd, Nat.reduceLT, Nat.reduceLeDiff, Nat.reduceEqDiff, Int.reduceLT, Int.reduceBEq, Int.reduceBNe, Nat.reduceBEq, ptr, List.append_nil, Int.toNat_zero, Nat.sub_self, res_one, resRow]
  exact ⟨_, rfl⟩
 ·(repeat refine Sat.seq ?_)
  (refine Sat.region_k fun k hk => ?_; simp -implicitDefEqProofs only [evr, id, seval, ptr, res_one, resRow, evn]; refine hk _ ?_; clear hk k; try show Sat _ _ _ _ _)
  refine Sat.cond_b rfl (fun _ => ?_) (fun _ => ?_)
  ·(repeat refine Sat.seq ?_)
   (refine Sat.region_k fun k hk => ?_; simp -implicitDefEqProofs only [evr, id, seval, ptr, res_one, resRow, evn])
   intro blk
   refine wcall_plain (nextC cb 14 (by decide) (by decide)) rfl plain_nextU ?_
   rintro r ⟨x, rfl, hx0, hx1⟩
   obtain ⟨i, rfl⟩ := Int.eq_ofNat_of_zero_le hx0
   have e := ints_at [9223372036854775807, -9223372036854775808, 1125899906842624, 1125899906842625, 65535, 65536, 255, 256, 1023, 1024, 65534, 65535, 4294967296, 4611686018427387905] i (by show i < 14; omega)
   simp only [List.map_cons, List.map_nil] at e
   simp -implicitDefEqProofs only [evr, id, seval, ptr, res_one, resRow, e, evn]
   refine ⟨by omega, by omega, ?_⟩
   (refine hk _ ?_; clear hk k; try show Sat _ _ _ _ _)
   refine Sat.ret ?_
   simp only [blockK, Tryz.results59, evr, id, reduceCtorEq, reduceIte, Nat.reduceMul, Nat.reduceAdd, Nat.reduceLT, Nat.reduceLeDiff, Nat.reduceEqDiff, Int.reduceLT, Int.reduceBEq, Int.reduceBNe, Nat.reduceBEq, ptr, List.append_nil, Int.toNat_zero, Nat.sub_self, res_one, resRow]
   exact ⟨_, rfl⟩
  ·(repeat refine Sat.seq ?_)
   (refine Sat.region_k fun k hk => ?_; simp -implicitDefEqProofs only [evr, id, seval, ptr, res_one, resRow, evn]; refine hk _ ?_; clear hk k; try show Sat _ _ _ _ _)
   refine Sat.cond_b rfl (fun _ => ?_) (fun _ => ?_)
   ·(repeat refine Sat.seq ?_)
    (refine Sat.region_k fun k hk => ?_; simp -implicitDefEqProofs only [evr, id, seval, ptr, res_one, resRow, evn])
    refine wcall_plain (nextC cb 256 (by decide) (by decide)) rfl plain_nextU ?_
    rintro r ⟨x2, rfl, _⟩
    simp -implicitDefEqProofs only [evr, id, seval, ptr, res_one, resRow, evn]
    refine wcall_plain (nextC cb 256 (by decide) (by decide)) rfl plain_nextU ?_
    rintro r ⟨x3, rfl, _⟩
    simp -implicitDefEqProofs only [evr, id, seval, ptr, res_one, resRow, evn]
    (refine hk _ ?_; clear hk k; try show Sat _ _ _ _ _)
    refine Sat.ret ?_
    simp only [blockK, Tryz.results59, evr, id, reduceCtorEq, reduceIte, Nat.reduceMul, Nat.reduceAdd, Nat.reduceLT, Nat.reduceLeDiff, Nat.reduceEqDiff, Int.reduceLT, Int.reduceBEq, Int.reduceBNe, Nat.reduceBEq, ptr, List.append_nil, Int.toNat_zero, Nat.sub_self, res_one, resRow]
    exact ⟨_, rfl⟩
   ·refine Sat.skip ?_
    simp only [thenK, blockK]
    (repeat refine Sat.seq ?_)
    (refine Sat.region_k fun k hk => ?_; simp -implicitDefEqProofs only [evr, id, seval, ptr, res_one, resRow, evn])
    refine wcall_plain (nextC cb 40 (by decide) (by decide)) rfl plain_nextU ?_
    rintro r ⟨x2, rfl, _⟩
    simp -implicitDefEqProofs only [evr, id, seval, ptr, res_one, resRow, evn]
    (refine hk _ ?_; clear hk k; try show Sat _ _ _ _ _)
    refine Sat.ret ?_
    simp only [Tryz.results59, evr, id, reduceCtorEq, reduceIte, Nat.reduceMul, Nat.reduceAdd, Nat.reduceLT, Nat.reduceLeDiff, Nat.reduceEqDiff, Int.reduceLT, Int.reduceBEq, Int.reduceBNe, Nat.reduceBEq, ptr, List.append_nil, Int.toNat_zero, Nat.sub_self, res_one, resRow]
    exact ⟨_, rfl⟩
end Go.Proofs.YtepbdjpcoleegaaGreat


/- Choices of results, by the evaluator: Result, Results. -/
namespace Go.Proofs.YtepbdjpcoleegaaGreat
open Go.Sort Eng
def rsOwn (blk2 blk3 : Nat) (x : Res) : List Eng.Own := [.box blk2 51 (Res.cs default), .box blk3 51 (Res.cs x)]
set_option maxRecDepth 100000 in
theorem resultC (cb : Nat) : Contract (Frm.codes cb) Tryz.prog 33 [ptr cb] (fun r => ∃ x : Res, r = resAg x ∧ wfR x) := by
 refine contract_of Tryz.func33 rfl (by kernel_rfl) ?_
 simp only [Tryz.ntmps33, argEnv, ptr]
 (repeat refine Sat.seq ?_)
 (refine Sat.region_k fun k hk => ?_; simp -implicitDefEqProofs only [evr, id, seval, ptr, res_one, resRow, res_ro, evn])
 intro blk2
 (refine hk _ ?_; clear hk k; try show Sat _ _ _ _ _)
 (repeat refine Sat.seq ?_)
 (refine Sat.region_k fun k hk => ?_; simp -implicitDefEqProofs only [evr, id, seval, ptr, res_one, resRow, res_ro, evn])
 refine wcall_plain (nextC cb 2 (by decide) (by decide)) rfl plain_nextU ?_
 rintro r ⟨x1, rfl, _⟩
 simp -implicitDefEqProofs only [evr, id, seval, ptr, res_one, resRow, res_ro, evn]
 refine wcall_plain (nextC cb 2 (by decide) (by decide)) rfl plain_nextU ?_
 rintro r ⟨x2, rfl, _⟩
 simp -implicitDefEqProofs only [evr, id, seval, ptr, res_one, resRow, res_ro, evn]
 refine wcall_plain (nextC cb 4 (by decide) (by decide)) rfl plain_nextU ?_
 rintro r ⟨x3, rfl, _⟩
 simp -implicitDefEqProofs only [evr, id, seval, ptr, res_one, resRow, res_ro, evn]
 refine wcall_plain (nextC cb 50 (by decide) (by decide)) rfl plain_nextU ?_
 rintro r ⟨x4, rfl, _⟩
 simp -implicitDefEqProofs only [evr, id, seval, ptr, res_one, resRow, res_ro, evn]
 refine wcall_plain (addressRC cb) rfl plain_addrU ?_
 rintro r ⟨x5, rfl, hx5⟩
 simp -implicitDefEqProofs only [evr, id, seval, ptr, res_one, resRow, res_ro, evn]
 refine wcall_plain (protoRC cb) rfl plain_intU ?_
 rintro r ⟨x6, rfl⟩
 simp -implicitDefEqProofs only [evr, id, seval, ptr, res_one, resRow, res_ro, evn]
 refine wcall_plain (nextC cb 3 (by decide) (by decide)) rfl plain_nextU ?_
 rintro r ⟨x7, rfl, _⟩
 simp -implicitDefEqProofs only [evr, id, seval, ptr, res_one, resRow, res_ro, evn]
 refine wcall_plain (nextC cb 4 (by decide) (by decide)) rfl plain_nextU ?_
 rintro r ⟨x8, rfl, _⟩
 simp -implicitDefEqProofs only [evr, id, seval, ptr, res_one, resRow, res_ro, evn]
 generalize IntKind.i64.wrap (1 + x8) = y8
 intro blk3
 (refine hk _ ?_; clear hk k; try show Sat _ _ _ _ _)
 (repeat refine Sat.seq ?_)
 (refine Sat.region_rows [⟨0, 23, 8, 0⟩, ⟨1, 24, 4194304, 1⟩, ⟨0, 25, 1, 0⟩, ⟨4, 26, 16777216, 2⟩, ⟨10, 27, 41943040, 0⟩, ⟨31, 28, 8, 0⟩, ⟨63, 0, 201326592, 2⟩] [0, 2, 1] [(3, false), (4, false), (5, false), (6, false)] [3] (by kernel_rfl) (by kernel_rfl) (fun _ _ h => h) fun k hk => ?_; simp only [List.map_cons, List.map_nil, List.getD_cons_zero, List.getD_cons_succ, btseq_cons, btseq_free, btseq_nil]; simp -implicitDefEqProofs only [evr, id, seval, ptr, res_one, resRow, res_ro, evn])
 refine wcall_plain (nextC cb 30 (by decide) (by decide)) rfl plain_nextU ?_
 rintro r ⟨x9, rfl, _⟩
 simp -implicitDefEqProofs only [evr, id, seval, ptr, res_one, resRow, res_ro, evn]
 generalize IntKind.i64.wrap (x4 + x9) = y9
 (refine hk _ ?_; clear hk k; try show Sat _ _ _ _ _)
 (repeat refine Sat.seq ?_)
 (refine Sat.region_k fun k hk => ?_; simp -implicitDefEqProofs only [evr, id, seval, ptr, res_one, resRow, res_ro, evn])
 refine wcall_plain (nextC cb 3 (by decide) (by decide)) rfl plain_nextU ?_
 rintro r ⟨x10, rfl, _⟩
 simp -implicitDefEqProofs only [evr, id, seval, ptr, res_one, resRow, res_ro, evn]
 (refine hk _ ?_; clear hk k; try show Sat _ _ _ _ _)
 refine Sat.atF (ι := Res) (fun x => ⟨96, [(0, ptr cb), (2, .op 0 blk2 0), (3, .op 1 blk3 0)], rsOwn blk2 blk3 x⟩) (fun x => wfR x) ?_ ?_
 ·refine Sat.cond_b rfl (fun _ => ?_) (fun _ => ?_)
  ·(repeat refine Sat.seq ?_)
   (refine Sat.region_k fun k hk => ?_; simp -implicitDefEqProofs only [evr, id, seval, ptr, res_one, resRow, res_ro, evn])
   refine wcall_plain (nextC cb 6 (by decide) (by decide)) rfl plain_nextU ?_
   rintro r ⟨x11, rfl, _⟩
   simp -implicitDefEqProofs only [evr, id, seval, ptr, res_one, resRow, res_ro, evn]
   (refine hk _ ?_; clear hk k; try show Sat _ _ _ _ _)
   refine Sat.boxBools 1 rfl ?_
   simp -implicitDefEqProofs only [evr, id, seval, ptr, res_one, resRow, res_ro, evn]
   (refine Sat.region_k fun k hk => ?_; simp -implicitDefEqProofs only [evr, id, seval, ptr, res_one, resRow, res_ro, evn])
   refine wcall_plain (addressRC cb) rfl plain_addrU ?_
   rintro r ⟨z1, rfl, hz1⟩
   simp -implicitDefEqProofs only [evr, id, seval, ptr, res_one, resRow, res_ro, evn]
   refine wcall_plain (nextC cb 5 (by decide) (by decide)) rfl plain_nextU ?_
   rintro r ⟨z2, rfl, _⟩
   simp -implicitDefEqProofs only [evr, id, seval, ptr, res_one, resRow, res_ro, evn]
   refine wcall_plain (nextC cb 4 (by decide) (by decide)) rfl plain_nextU ?_
   rintro r ⟨z3, rfl, _⟩
   simp -implicitDefEqProofs only [evr, id, seval, ptr, res_one, resRow, res_ro, evn]
   refine wcall_plain (nextC cb 5 (by decide) (by decide)) rfl plain_nextU ?_
   rintro r ⟨z4, rfl, _⟩
   simp -implicitDefEqProofs only [evr, id, seval, ptr, res_one, resRow, res_ro, evn]
   refine wcall_plain (nextC cb 300 (by decide) (by decide)) rfl plain_nextU ?_
   rintro r ⟨z5, rfl, _⟩
   simp -implicitDefEqProofs only [evr, id, seval, ptr, res_one, resRow, res_ro, evn]
   refine wcall_plain (nextC cb 2 (by decide) (by decide)) rfl plain_nextU ?_
   rintro r ⟨z6, rfl, _⟩
   simp -implicitDefEqProofs only [evr, id, seval, ptr, res_one, resRow, res_ro, evn]
   (refine hk _ ?_; clear hk k; try show Sat _ _ _ _ _)
   simp only [thenK]
   exact ⟨⟨_, _, _, _, x5, _, _, _, _, _, _, z1, _, _, _, _, _⟩, ⟨hx5, hz1⟩, rfl, ⟨.inl rfl, .inl rfl, .inl rfl, trivial⟩, ⟨rfl, rfl, rfl⟩, ⟨rfl, rfl, rfl⟩, trivial⟩
  ·refine Sat.skip ?_
   simp only [thenK]
   exact ⟨⟨_, _, _, _, x5, _, _, _, _, _, _, _, _, _, _, _, _⟩, ⟨hx5, (⟨by decide, by decide⟩ : u32 0)⟩, rfl, ⟨.inl rfl, .inl rfl, .inl rfl, trivial⟩, ⟨rfl, rfl, rfl⟩, ⟨rfl, rfl, rfl⟩, trivial⟩
 rintro x hx
 simp only [thenK, rsOwn, Res.cs, ptr]
 (repeat refine Sat.seq ?_)
 (refine Sat.region_k fun k hk => ?_; simp -implicitDefEqProofs only [evr, id, seval, ptr, res_one, resRow, res_ro, evn])
 refine wcall_plain (nextC cb 16 (by decide) (by decide)) rfl plain_nextU ?_
 rintro r ⟨x12, rfl, _⟩
 simp -implicitDefEqProofs only [evr, id, seval, ptr, res_one, resRow, res_ro, evn]
 (refine hk _ ?_; clear hk k; try show Sat _ _ _ _ _)
 (repeat refine Sat.seq ?_)
 refine Sat.atF (ι := Res) (fun x => ⟨96, [(0, ptr cb), (2, .op 0 blk2 0), (3, .op 1 blk3 0)], rsOwn blk2 blk3 x⟩) (fun x => wfR x) ?_ ?_
 ·refine Sat.block ?_
  (repeat refine Sat.seq ?_)
  (refine Sat.region_k fun k hk => ?_; simp -implicitDefEqProofs only [evr, id, seval, ptr, res_one, resRow, res_ro, evn]; refine hk _ ?_; clear hk k; try show Sat _ _ _ _ _)
  refine Sat.cond_b rfl (fun _ => ?_) (fun _ => ?_)
  ·(refine Sat.region_k fun k hk => ?_; simp -implicitDefEqProofs only [evr, id, seval, ptr, res_one, resRow, res_ro, evn])
   refine wcall_plain (intRC cb) rfl plain_intU ?_
   rintro r ⟨w0, rfl⟩
   simp -implicitDefEqProofs only [evr, id, seval, ptr, res_one, resRow, res_ro, evn]
   refine wcall_plain (intRC cb) rfl plain_intU ?_
   rintro r ⟨w1, rfl⟩
   simp -implicitDefEqProofs only [evr, id, seval, ptr, res_one, resRow, res_ro, evn]
   (refine hk _ ?_; clear hk k; try show Sat _ _ _ _ _)
   simp only [thenK, blockK]
   exact ⟨{ x with at_ := w0, back := w1 }, ⟨hx.1, hx.2⟩, rfl, ⟨.inl rfl, .inl rfl, .inl rfl, trivial⟩, ⟨rfl, rfl, rfl⟩, ⟨rfl, rfl, rfl⟩, trivial⟩
  ·(repeat refine Sat.seq ?_)
   (refine Sat.region_k fun k hk => ?_; simp -implicitDefEqProofs only [evr, id, seval, ptr, res_one, resRow, res_ro, evn]; refine hk _ ?_; clear hk k; try show Sat _ _ _ _ _)
   refine Sat.cond_b rfl (fun _ => ?_) (fun _ => ?_)
   ·(refine Sat.region_k fun k hk => ?_; simp -implicitDefEqProofs only [evr, id, seval, ptr, res_one, resRow, res_ro, evn])
    refine wcall_plain (intRC cb) rfl plain_intU ?_
    rintro r ⟨w0, rfl⟩
    simp -implicitDefEqProofs only [evr, id, seval, ptr, res_one, resRow, res_ro, evn]
    refine wcall_plain (intRC cb) rfl plain_intU ?_
    rintro r ⟨w1, rfl⟩
    simp -implicitDefEqProofs only [evr, id, seval, ptr, res_one, resRow, res_ro, evn]
    refine wcall_plain (intRC cb) rfl plain_intU ?_
    rintro r ⟨w2, rfl⟩
    simp -implicitDefEqProofs only [evr, id, seval, ptr, res_one, resRow, res_ro, evn]
    (refine hk _ ?_; clear hk k; try show Sat _ _ _ _ _)
    simp only [thenK, blockK]
    exact ⟨{ x with flow := w0, ttl := w1, proto := w2 }, ⟨hx.1, hx.2⟩, rfl, ⟨.inl rfl, .inl rfl, .inl rfl, trivial⟩, ⟨rfl, rfl, rfl⟩, ⟨rfl, rfl, rfl⟩, trivial⟩
   ·(repeat refine Sat.seq ?_)
    (refine Sat.region_k fun k hk => ?_; simp -implicitDefEqProofs only [evr, id, seval, ptr, res_one, resRow, res_ro, evn]; refine hk _ ?_; clear hk k; try show Sat _ _ _ _ _)
    refine Sat.cond_b rfl (fun _ => ?_) (fun _ => ?_)
    ·(refine Sat.region_k fun k hk => ?_; simp -implicitDefEqProofs only [evr, id, seval, ptr, res_one, resRow, res_ro, evn])
     refine wcall_plain (intRC cb) rfl plain_intU ?_
     rintro r ⟨w0, rfl⟩
     simp -implicitDefEqProofs only [evr, id, seval, ptr, res_one, resRow, res_ro, evn]
     refine wcall_plain (intRC cb) rfl plain_intU ?_
     rintro r ⟨w1, rfl⟩
     simp -implicitDefEqProofs only [evr, id, seval, ptr, res_one, resRow, res_ro, evn]
     (refine hk _ ?_; clear hk k; try show Sat _ _ _ _ _)
     simp only [thenK, blockK]
     exact ⟨{ x with kind := w0, id := w1 }, ⟨hx.1, hx.2⟩, rfl, ⟨.inl rfl, .inl rfl, .inl rfl, trivial⟩, ⟨rfl, rfl, rfl⟩, ⟨rfl, rfl, rfl⟩, trivial⟩
    ·(repeat refine Sat.seq ?_)
     (refine Sat.region_k fun k hk => ?_; simp -implicitDefEqProofs only [evr, id, seval, ptr, res_one, resRow, res_ro, evn]; refine hk _ ?_; clear hk k; try show Sat _ _ _ _ _)
     refine Sat.cond_b rfl (fun _ => ?_) (fun _ => ?_)
     ·(refine Sat.region_k fun k hk => ?_; simp -implicitDefEqProofs only [evr, id, seval, ptr, res_one, resRow, res_ro, evn])
      refine wcall_plain (intRC cb) rfl plain_intU ?_
      rintro r ⟨w0, rfl⟩
      simp -implicitDefEqProofs only [evr, id, seval, ptr, res_one, resRow, res_ro, evn]
      refine wcall_plain (intRC cb) rfl plain_intU ?_
      rintro r ⟨w1, rfl⟩
      simp -implicitDefEqProofs only [evr, id, seval, ptr, res_one, resRow, res_ro, evn]
      refine wcall_plain (intRC cb) rfl plain_intU ?_
      rintro r ⟨w2, rfl⟩
      simp -implicitDefEqProofs only [evr, id, seval, ptr, res_one, resRow, res_ro, evn]
      (refine hk _ ?_; clear hk k; try show Sat _ _ _ _ _)
      simp only [thenK, blockK]
      exact ⟨{ x with vantage := w0, run := w1, number := w2 }, ⟨hx.1, hx.2⟩, rfl, ⟨.inl rfl, .inl rfl, .inl rfl, trivial⟩, ⟨rfl, rfl, rfl⟩, ⟨rfl, rfl, rfl⟩, trivial⟩
     ·refine Sat.skip ?_
      simp only [thenK, blockK]
      exact ⟨x, hx, rfl, ⟨.inl rfl, .inl rfl, .inl rfl, trivial⟩, ⟨rfl, rfl, rfl⟩, ⟨rfl, rfl, rfl⟩, trivial⟩
 rintro y hy
 simp only [thenK, rsOwn, Res.cs, ptr]
 (repeat refine Sat.seq ?_)
 (refine Sat.region_k fun k hk => ?_; simp -implicitDefEqProofs only [evr, id, seval, ptr, res_one, resRow, res_ro, evn]; refine hk _ ?_; clear hk k; try show Sat _ _ _ _ _)
 refine Sat.ret ?_
 simp only [Tryz.results33, evr, id, reduceCtorEq, reduceIte, Nat.reduceMul, Nat.reduceAdd, Nat.reduceLT, Nat.reduceLeDiff, Nat.reduceEqDiff, Int.reduceLT, Int.reduceBEq, Int.reduceBNe, Nat.reduceBEq, ptr, List.append_nil, Int.toNat_zero, Nat.sub_self, res_one, resRow, res_ro]
 exact ⟨y, rfl, hy⟩
theorem plain_resA (x : Res) : ∀ R w, (resAg x).ok R w := by
 intro R w j hj
 have : oneS (resRd #[x] 0 j) = true := res_one _ _ _ hj
 rcases (show j = 0 ∨ j = 1 ∨ j = 2 ∨ j = 3 ∨ j = 4 ∨ j = 5 ∨ j = 6 ∨ j = 7 ∨ j = 8 ∨ j = 9 ∨ j = 10 ∨ j = 11 ∨ j = 12 ∨ j = 13 ∨ j = 14 ∨ j = 15 ∨ j = 16 by omega) with rfl | rfl | rfl | rfl | rfl | rfl | rfl | rfl | rfl | rfl | rfl | rfl | rfl | rfl | rfl | rfl | rfl <;> exact trivial
theorem plain_res (r : SV) (h : ∃ x : Res, r = resAg x ∧ wfR x) : ∀ R w, r.ok R w := by
 obtain ⟨x, rfl, _⟩ := h
 exact plain_resA x
end Go.Proofs.YtepbdjpcoleegaaGreat


/- Results that are drawn, with one change: dice.Odd, by the evaluator (its cases are written by gen_odd.py). -/
namespace Go.Proofs.YtepbdjpcoleegaaGreat
open Go.Sort Eng
theorem res_2x (d : Array Res) (i : Nat) : resRd d i 2 = .i .i64 (d[i]!).number := rfl
theorem res_3x (d : Array Res) (i : Nat) : resRd d i 3 = .i .i64 (d[i]!).at_ := rfl
theorem res_8x (d : Array Res) (i : Nat) : resRd d i 8 = .b (d[i]!).answered := rfl
theorem res_9x (d : Array Res) (i : Nat) : resRd d i 9 = .b (d[i]!).doubled := rfl
theorem w64_inAx {x : Int} (h : InA x) : w64i x = x := w64 ⟨by have := h.1; omega, by have := h.2; omega⟩
theorem wf_rg {x : Res} (h : wfR x) : RgR x := ⟨u32_keep h.1, u32_keep h.2⟩
theorem all17 {P : Nat → Prop} (h : P 0 ∧ P 1 ∧ P 2 ∧ P 3 ∧ P 4 ∧ P 5 ∧ P 6 ∧ P 7 ∧ P 8 ∧ P 9 ∧ P 10 ∧ P 11 ∧ P 12 ∧ P 13 ∧ P 14 ∧ P 15 ∧ P 16) : ∀ j, j < 17 → P j := by
 intro j hj
 obtain ⟨h0, h1, h2, h3, h4, h5, h6, h7, h8, h9, h10, h11, h12, h13, h14, h15, h16⟩ := h
 rcases (show j = 0 ∨ j = 1 ∨ j = 2 ∨ j = 3 ∨ j = 4 ∨ j = 5 ∨ j = 6 ∨ j = 7 ∨ j = 8 ∨ j = 9 ∨ j = 10 ∨ j = 11 ∨ j = 12 ∨ j = 13 ∨ j = 14 ∨ j = 15 ∨ j = 16 by omega) with rfl | rfl | rfl | rfl | rfl | rfl | rfl | rfl | rfl | rfl | rfl | rfl | rfl | rfl | rfl | rfl | rfl <;> assumption
theorem set_rg {ys : List Res} {ix : Nat} {x : Res} (h : ∀ r ∈ ys, RgR r) (hx : RgR x) : ∀ r ∈ ys.set ix x, RgR r := fun r hr => by
 rcases List.mem_or_eq_of_mem_set hr with h1 | rfl
 ·exact h r h1
 ·exact hx
theorem rs_set {ys : List Res} {ix f : Nat} {vs : List SV} (h : ix < ys.length) (x : Res) (hx : ∀ j, j < 17 → (if f ≤ j ∧ j < f + vs.length then vs.getD (j - f) default else (Res.cs ys.toArray[ix]!).getD j default) = (Res.cs x).getD j default) : rdEq ys.length 17 (rdSet (resRd ys.toArray) ix f vs) (resRd (ys.set ix x).toArray) := by
 intro p q hp hq
 unfold rdSet
 have hl : p < (ys.set ix x).length := by rw [List.length_set]; exact hp
 show _ = (Res.cs (ys.set ix x).toArray[p]!).getD q default
 rw [getB hl]
 by_cases e : p = ix
 ·subst e
  rw [List.getElem_set_self, ← hx q hq]
  by_cases g : f ≤ q ∧ q < f + vs.length
  ·rw [if_pos ⟨rfl, g⟩, if_pos g]
  ·rw [if_neg (fun g2 => g g2.2), if_neg g]
   rfl
 ·rw [if_neg (fun g => e g.1), List.getElem_set_ne (fun g => e g.symm)]
  show (Res.cs ys.toArray[p]!).getD q default = _
  rw [getB hp]
set_option maxHeartbeats 2000000 in
set_option maxRecDepth 100000 in
theorem oddC (cb : Nat) (ad : Option Addr) (cap : Nat) (xs : List Res) (hl : xs.length ≤ 1000) (hin : ∀ r ∈ xs, RgR r) :
  ContractN (Frm.codes cb) Tryz.prog 10 [ptr cb, .sl ad xs.length cap 17 (resRd xs.toArray)] (fun o => ∃ (a : Option Addr) (c : Nat) (ys : List Res), (∀ r ∈ ys, RgR r) ∧ ys.length ≤ xs.length + 1 ∧ o = resRow a ys.length c ys.toArray) := by
 refine contractN_of Tryz.func10 rfl (by kernel_rfl) ?_
 simp only [Tryz.ntmps10, argEnv, ptr]
 (repeat refine Sat.seq ?_)
 (refine Sat.region_k fun k hk => ?_; simp -implicitDefEqProofs only [evr, id, reduceCtorEq, reduceIte, Nat.reduceMul, Nat.reduceAdd, Nat.reduceLT, Nat.reduceLeDiff, Nat.reduceEqDiff, Int.reduceLT, Int.reduceBEq, Int.reduceBNe, Nat.reduceBEq, ptr, res_one, res_ro, Int.reduceToNat, resRow, res_8x, res_9x, res_3x, evn]; refine hk _ ?_; clear hk k; try show Sat _ _ _ _ _)
 (repeat refine Sat.seq ?_)
 (refine Sat.region_k fun k hk => ?_; simp -implicitDefEqProofs only [evr, id, reduceCtorEq, reduceIte, Nat.reduceMul, Nat.reduceAdd, Nat.reduceLT, Nat.reduceLeDiff, Nat.reduceEqDiff, Int.reduceLT, Int.reduceBEq, Int.reduceBNe, Nat.reduceBEq, ptr, res_one, res_ro, Int.reduceToNat, resRow, res_8x, res_9x, res_3x, evn])
 refine ⟨⟨by unfold maxLen; omega, by omega⟩, fun a c => ?_⟩
 (refine hk _ ?_; clear hk k; try show Sat _ _ _ _ _)
 (repeat refine Sat.seq ?_)
 (refine Sat.region_k fun k hk => ?_; simp -implicitDefEqProofs only [evr, id, reduceCtorEq, reduceIte, Nat.reduceMul, Nat.reduceAdd, Nat.reduceLT, Nat.reduceLeDiff, Nat.reduceEqDiff, Int.reduceLT, Int.reduceBEq, Int.reduceBNe, Nat.reduceBEq, ptr, res_one, res_ro, Int.reduceToNat, resRow, res_8x, res_9x, res_3x, evn]; refine hk _ ?_; clear hk k; try show Sat _ _ _ _ _)
 (repeat refine Sat.seq ?_)
 refine Sat.cond_b rfl (fun h => ?_) (fun h => ?_)
 ·(repeat refine Sat.seq ?_)
  (refine Sat.region_k fun k hk => ?_; simp -implicitDefEqProofs only [evr, id, reduceCtorEq, reduceIte, Nat.reduceMul, Nat.reduceAdd, Nat.reduceLT, Nat.reduceLeDiff, Nat.reduceEqDiff, Int.reduceLT, Int.reduceBEq, Int.reduceBNe, Nat.reduceBEq, ptr, res_one, res_ro, Int.reduceToNat, resRow, res_8x, res_9x, res_3x, evn])
  refine wcall_plain (resultC cb) rfl plain_res ?_
  rintro _ ⟨x, rfl, hw⟩
  simp only [resAg, Res.cs, evr, id, reduceCtorEq, reduceIte, Nat.reduceMul, Nat.reduceAdd, Nat.reduceLT, Nat.reduceLeDiff, Nat.reduceEqDiff, Int.reduceLT, Int.reduceBEq, Int.reduceBNe, Nat.reduceBEq, ptr, res_one, res_ro, List.append_nil, Int.toNat_zero, Nat.sub_self, Int.reduceToNat, resRow, res_8x, res_9x, res_3x]
  intro b3
  refine ⟨⟨by unfold maxLen; omega, by omega⟩, fun a2 cap2 => ?_⟩
  (refine hk _ ?_; clear hk k; try show Sat _ _ _ _ _)
  have h0 : xs.length = 0 := by simpa using h
  obtain rfl := List.eq_nil_of_length_eq_zero h0
  refine Sat.le (st' := ⟨125, [(4, .os 0 a2 1 cap2)], [resRow a2 1 cap2 ([] ++ [x]).toArray]⟩) ?_ ?_
  ·refine Sat.ret ?_
   simp only [thenK, resRow, Tryz.results10, evr, id, reduceCtorEq, reduceIte, Nat.reduceMul, Nat.reduceAdd, Nat.reduceLT, Nat.reduceLeDiff, Nat.reduceEqDiff, Int.reduceLT, Int.reduceBEq, Int.reduceBNe, Nat.reduceBEq, ptr, res_one, res_ro, List.append_nil, Int.toNat_zero, Nat.sub_self, Int.reduceToNat, resRow, res_8x, res_9x, res_3x, retN, retNK, newRow]
   exact ⟨⟨rfl, rfl, rfl⟩, a2, cap2, [x], fun r hr => by rw [List.mem_singleton.1 hr]; exact wf_rg hw, by simp, rfl⟩
  ·simp only [resRow]
   simp -implicitDefEqProofs only [evr, id, reduceCtorEq, reduceIte, Nat.reduceMul, Nat.reduceAdd, Nat.reduceLT, Nat.reduceLeDiff, Nat.reduceEqDiff, Int.reduceLT, Int.reduceBEq, Int.reduceBNe, Nat.reduceBEq, ptr, res_one, res_ro, Int.reduceToNat, resRow, res_8x, res_9x, res_3x, evl, evn]
   exact (res_app (ys := ([] : List Res)) rfl)
 have hpos : 0 < xs.length := by
  have : ¬ ((xs.length : Int) = 0) := by simpa using h
  omega
 refine Sat.skip ?_
 simp only [thenK]
 obtain ⟨ys, hyx⟩ : ∃ ys, ys = xs := ⟨_, rfl⟩
 rw [← hyx] at hpos hin hl ⊢
 clear hyx h
 have hys := hin
 (repeat refine Sat.seq ?_)
 (refine Sat.region_k fun k hk => ?_; simp -implicitDefEqProofs only [evr, id, reduceCtorEq, reduceIte, Nat.reduceMul, Nat.reduceAdd, Nat.reduceLT, Nat.reduceLeDiff, Nat.reduceEqDiff, Int.reduceLT, Int.reduceBEq, Int.reduceBNe, Nat.reduceBEq, ptr, res_one, res_ro, Int.reduceToNat, resRow, res_8x, res_9x, res_3x, evn])
 refine wcall_plain (nextC cb ys.length (by omega) (by omega)) rfl (by rintro _ ⟨x, rfl, _⟩; exact ok_plain rfl) ?_
 rintro _ ⟨ix, rfl, hx0, hx1⟩
 obtain ⟨ix, rfl⟩ := Int.eq_ofNat_of_zero_le hx0
 have hix : ix < ys.length := by omega
 obtain ⟨y, hy⟩ : ∃ y, ys.toArray[ix]! = y := ⟨_, rfl⟩
 have hgy : RgR y := by rw [← hy, getB hix]; exact hys _ (List.getElem_mem hix)
 simp -implicitDefEqProofs only [evr, id, reduceCtorEq, reduceIte, Nat.reduceMul, Nat.reduceAdd, Nat.reduceLT, Nat.reduceLeDiff, Nat.reduceEqDiff, Int.reduceLT, Int.reduceBEq, Int.reduceBNe, Nat.reduceBEq, ptr, res_one, res_ro, Int.reduceToNat, resRow, res_8x, res_9x, res_3x, evn]
 (refine hk _ ?_; clear hk k; try show Sat _ _ _ _ _)
 (repeat refine Sat.seq ?_)
 (refine Sat.region_k fun k hk => ?_; simp -implicitDefEqProofs only [evr, id, reduceCtorEq, reduceIte, Nat.reduceMul, Nat.reduceAdd, Nat.reduceLT, Nat.reduceLeDiff, Nat.reduceEqDiff, Int.reduceLT, Int.reduceBEq, Int.reduceBNe, Nat.reduceBEq, ptr, res_one, res_ro, Int.reduceToNat, resRow, res_8x, res_9x, res_3x, evn])
 refine wcall_plain (nextC cb 9 (by decide) (by decide)) rfl (by rintro _ ⟨x, rfl, _⟩; exact ok_plain rfl) ?_
 rintro _ ⟨w9, rfl, _, _⟩
 simp -implicitDefEqProofs only [evr, id, reduceCtorEq, reduceIte, Nat.reduceMul, Nat.reduceAdd, Nat.reduceLT, Nat.reduceLeDiff, Nat.reduceEqDiff, Int.reduceLT, Int.reduceBEq, Int.reduceBNe, Nat.reduceBEq, ptr, res_one, res_ro, Int.reduceToNat, resRow, res_8x, res_9x, res_3x, evn]
 (refine hk _ ?_; clear hk k; try show Sat _ _ _ _ _)
 refine Sat.atF (ι := List Res) (fun zs => ⟨125, [(5, .os 0 a ys.length c)], [.row a 51 ys.length c 17 (resRd zs.toArray)]⟩) (fun zs => zs.length = ys.length ∧ ∀ r ∈ zs, RgR r) ?_ ?_
 ·refine Sat.block ?_
  (repeat refine Sat.seq ?_)
  (refine Sat.region_k fun k hk => ?_; simp -implicitDefEqProofs only [evr, id, reduceCtorEq, reduceIte, Nat.reduceMul, Nat.reduceAdd, Nat.reduceLT, Nat.reduceLeDiff, Nat.reduceEqDiff, Int.reduceLT, Int.reduceBEq, Int.reduceBNe, Nat.reduceBEq, ptr, res_one, res_ro, Int.reduceToNat, resRow, res_8x, res_9x, res_3x, evn]; refine hk _ ?_; clear hk k; try show Sat _ _ _ _ _)
  refine Sat.cond_b rfl (fun h => ?_) (fun h => ?_)
  ·(repeat refine Sat.seq ?_)
   (refine Sat.region_k fun k hk => ?_; simp -implicitDefEqProofs only [evr, id, reduceCtorEq, reduceIte, Nat.reduceMul, Nat.reduceAdd, Nat.reduceLT, Nat.reduceLeDiff, Nat.reduceEqDiff, Int.reduceLT, Int.reduceBEq, Int.reduceBNe, Nat.reduceBEq, ptr, res_one, res_ro, Int.reduceToNat, resRow, res_8x, res_9x, res_3x, evn])
   refine wcall_plain (resultC cb) rfl plain_res ?_
   rintro _ ⟨x, rfl, hw⟩
   simp only [resAg, Res.cs, evr, id, reduceCtorEq, reduceIte, Nat.reduceMul, Nat.reduceAdd, Nat.reduceLT, Nat.reduceLeDiff, Nat.reduceEqDiff, Int.reduceLT, Int.reduceBEq, Int.reduceBNe, Nat.reduceBEq, ptr, res_one, res_ro, List.append_nil, Int.toNat_zero, Nat.sub_self, Int.reduceToNat, resRow, res_8x, res_9x, res_3x]
   refine ⟨by omega, by omega, ?_⟩
   refine hk _ ?_
   clear hk k
   simp only [thenK, blockK, reduceIte]
   refine ⟨ys.set ix x, ⟨List.length_set .., set_rg hys (wf_rg hw)⟩, ?_⟩
   simp -implicitDefEqProofs only [evr, id, reduceCtorEq, reduceIte, Nat.reduceMul, Nat.reduceAdd, Nat.reduceLT, Nat.reduceLeDiff, Nat.reduceEqDiff, Int.reduceLT, Int.reduceBEq, Int.reduceBNe, Nat.reduceBEq, ptr, res_one, res_ro, Int.reduceToNat, resRow, res_8x, res_9x, res_3x, evl, evn]
   exact rs_set hix x (by rw [hy]; exact all17 ⟨rfl, rfl, rfl, rfl, rfl, rfl, rfl, rfl, rfl, rfl, rfl, rfl, rfl, rfl, rfl, rfl, rfl⟩)
  ·(repeat refine Sat.seq ?_)
   (refine Sat.region_k fun k hk => ?_; simp -implicitDefEqProofs only [evr, id, reduceCtorEq, reduceIte, Nat.reduceMul, Nat.reduceAdd, Nat.reduceLT, Nat.reduceLeDiff, Nat.reduceEqDiff, Int.reduceLT, Int.reduceBEq, Int.reduceBNe, Nat.reduceBEq, ptr, res_one, res_ro, Int.reduceToNat, resRow, res_8x, res_9x, res_3x, evn]; refine hk _ ?_; clear hk k; try show Sat _ _ _ _ _)
   refine Sat.cond_b rfl (fun h => ?_) (fun h => ?_)
   ·(repeat refine Sat.seq ?_)
    (refine Sat.region_k fun k hk => ?_; simp -implicitDefEqProofs only [evr, id, reduceCtorEq, reduceIte, Nat.reduceMul, Nat.reduceAdd, Nat.reduceLT, Nat.reduceLeDiff, Nat.reduceEqDiff, Int.reduceLT, Int.reduceBEq, Int.reduceBNe, Nat.reduceBEq, ptr, res_one, res_ro, Int.reduceToNat, resRow, res_8x, res_9x, res_3x, evn])
    refine wcall_plain (addrC cb) rfl plain_addrC ?_
    rintro _ ⟨v, hv, rfl⟩
    simp -implicitDefEqProofs only [evr, id, reduceCtorEq, reduceIte, Nat.reduceMul, Nat.reduceAdd, Nat.reduceLT, Nat.reduceLeDiff, Nat.reduceEqDiff, Int.reduceLT, Int.reduceBEq, Int.reduceBNe, Nat.reduceBEq, ptr, res_one, res_ro, Int.reduceToNat, resRow, res_8x, res_9x, res_3x, evn]
    refine ⟨by omega, by omega, ?_⟩
    refine hk _ ?_
    clear hk k
    simp only [thenK, blockK, reduceIte]
    refine ⟨ys.set ix { y with from_ := v }, ⟨List.length_set .., set_rg hys ⟨hgy.1, w64_inAx hv⟩⟩, ?_⟩
    simp -implicitDefEqProofs only [evr, id, reduceCtorEq, reduceIte, Nat.reduceMul, Nat.reduceAdd, Nat.reduceLT, Nat.reduceLeDiff, Nat.reduceEqDiff, Int.reduceLT, Int.reduceBEq, Int.reduceBNe, Nat.reduceBEq, ptr, res_one, res_ro, Int.reduceToNat, resRow, res_8x, res_9x, res_3x, evl, evn]
    exact rs_set hix { y with from_ := v } (by rw [hy]; exact all17 ⟨rfl, rfl, rfl, rfl, rfl, rfl, rfl, rfl, rfl, rfl, rfl, rfl, rfl, rfl, rfl, rfl, rfl⟩)
   ·(repeat refine Sat.seq ?_)
    (refine Sat.region_k fun k hk => ?_; simp -implicitDefEqProofs only [evr, id, reduceCtorEq, reduceIte, Nat.reduceMul, Nat.reduceAdd, Nat.reduceLT, Nat.reduceLeDiff, Nat.reduceEqDiff, Int.reduceLT, Int.reduceBEq, Int.reduceBNe, Nat.reduceBEq, ptr, res_one, res_ro, Int.reduceToNat, resRow, res_8x, res_9x, res_3x, evn]; refine hk _ ?_; clear hk k; try show Sat _ _ _ _ _)
    refine Sat.cond_b rfl (fun h => ?_) (fun h => ?_)
    ·(repeat refine Sat.seq ?_)
     (refine Sat.region_k fun k hk => ?_; simp -implicitDefEqProofs only [evr, id, reduceCtorEq, reduceIte, Nat.reduceMul, Nat.reduceAdd, Nat.reduceLT, Nat.reduceLeDiff, Nat.reduceEqDiff, Int.reduceLT, Int.reduceBEq, Int.reduceBNe, Nat.reduceBEq, ptr, res_one, res_ro, Int.reduceToNat, resRow, res_8x, res_9x, res_3x, evn])
     refine ⟨by omega, by omega, by omega, by omega, ?_⟩
     refine hk _ ?_
     clear hk k
     simp only [thenK, blockK, reduceIte]
     refine ⟨ys.set ix { y with answered := !y.answered }, ⟨List.length_set .., set_rg hys hgy⟩, ?_⟩
     simp -implicitDefEqProofs only [evr, id, reduceCtorEq, reduceIte, Nat.reduceMul, Nat.reduceAdd, Nat.reduceLT, Nat.reduceLeDiff, Nat.reduceEqDiff, Int.reduceLT, Int.reduceBEq, Int.reduceBNe, Nat.reduceBEq, ptr, res_one, res_ro, Int.reduceToNat, resRow, res_8x, res_9x, res_3x, evl, evn]
     exact rs_set hix { y with answered := !y.answered } (by rw [hy]; exact all17 ⟨rfl, rfl, rfl, rfl, rfl, rfl, rfl, rfl, rfl, rfl, rfl, rfl, rfl, rfl, rfl, rfl, rfl⟩)
    ·(repeat refine Sat.seq ?_)
     (refine Sat.region_k fun k hk => ?_; simp -implicitDefEqProofs only [evr, id, reduceCtorEq, reduceIte, Nat.reduceMul, Nat.reduceAdd, Nat.reduceLT, Nat.reduceLeDiff, Nat.reduceEqDiff, Int.reduceLT, Int.reduceBEq, Int.reduceBNe, Nat.reduceBEq, ptr, res_one, res_ro, Int.reduceToNat, resRow, res_8x, res_9x, res_3x, evn]; refine hk _ ?_; clear hk k; try show Sat _ _ _ _ _)
     refine Sat.cond_b rfl (fun h => ?_) (fun h => ?_)
     ·(repeat refine Sat.seq ?_)
      (refine Sat.region_k fun k hk => ?_; simp -implicitDefEqProofs only [evr, id, reduceCtorEq, reduceIte, Nat.reduceMul, Nat.reduceAdd, Nat.reduceLT, Nat.reduceLeDiff, Nat.reduceEqDiff, Int.reduceLT, Int.reduceBEq, Int.reduceBNe, Nat.reduceBEq, ptr, res_one, res_ro, Int.reduceToNat, resRow, res_8x, res_9x, res_3x, evn])
      intro bp
      refine wcall_plain (pickI cb bp [0, 1, 2, 255, 256] (fun _ => True) (by decide) (by decide) (by simp)) (by simp -implicitDefEqProofs only [evr, id, reduceCtorEq, reduceIte, Nat.reduceMul, Nat.reduceAdd, Nat.reduceLT, Nat.reduceLeDiff, Nat.reduceEqDiff, Int.reduceLT, Int.reduceBEq, Int.reduceBNe, Nat.reduceBEq, ptr, res_one, res_ro, Int.reduceToNat, resRow, res_8x, res_9x, res_3x, evn]) plain_pick ?_
      rintro _ ⟨v, rfl, _⟩
      simp -implicitDefEqProofs only [evr, id, reduceCtorEq, reduceIte, Nat.reduceMul, Nat.reduceAdd, Nat.reduceLT, Nat.reduceLeDiff, Nat.reduceEqDiff, Int.reduceLT, Int.reduceBEq, Int.reduceBNe, Nat.reduceBEq, ptr, res_one, res_ro, Int.reduceToNat, resRow, res_8x, res_9x, res_3x, evn]
      refine ⟨by omega, by omega, ?_⟩
      refine hk _ ?_
      clear hk k
      simp only [thenK, blockK, reduceIte]
      refine ⟨ys.set ix { y with ttl := v }, ⟨List.length_set .., set_rg hys hgy⟩, ?_⟩
      simp -implicitDefEqProofs only [evr, id, reduceCtorEq, reduceIte, Nat.reduceMul, Nat.reduceAdd, Nat.reduceLT, Nat.reduceLeDiff, Nat.reduceEqDiff, Int.reduceLT, Int.reduceBEq, Int.reduceBNe, Nat.reduceBEq, ptr, res_one, res_ro, Int.reduceToNat, resRow, res_8x, res_9x, res_3x, evl, evn]
      exact rs_set hix { y with ttl := v } (by rw [hy]; exact all17 ⟨rfl, rfl, rfl, rfl, rfl, rfl, rfl, rfl, rfl, rfl, rfl, rfl, rfl, rfl, rfl, rfl, rfl⟩)
     ·(repeat refine Sat.seq ?_)
      (refine Sat.region_k fun k hk => ?_; simp -implicitDefEqProofs only [evr, id, reduceCtorEq, reduceIte, Nat.reduceMul, Nat.reduceAdd, Nat.reduceLT, Nat.reduceLeDiff, Nat.reduceEqDiff, Int.reduceLT, Int.reduceBEq, Int.reduceBNe, Nat.reduceBEq, ptr, res_one, res_ro, Int.reduceToNat, resRow, res_8x, res_9x, res_3x, evn]; refine hk _ ?_; clear hk k; try show Sat _ _ _ _ _)
      refine Sat.cond_b rfl (fun h => ?_) (fun h => ?_)
      ·(repeat refine Sat.seq ?_)
       (refine Sat.region_tree (.keep [0, 1, 2, 3, 4, 5, 6, 8, 9, 10, 11, 7, 12, 13] [] (.one 14 (.one 15 (.one 16 (.one 17 (.one 18 .done)))))) (by kernel_rfl) (by kernel_rfl) (fun _ _ h => h) fun k hk => ?_; simp only [WOT, List.map_cons, List.map_nil, List.getD_cons_zero, List.getD_cons_succ]; simp -implicitDefEqProofs only [evr, id, reduceCtorEq, reduceIte, Nat.reduceMul, Nat.reduceAdd, Nat.reduceLT, Nat.reduceLeDiff, Nat.reduceEqDiff, Int.reduceLT, Int.reduceBEq, Int.reduceBNe, Nat.reduceBEq, ptr, res_one, res_ro, Int.reduceToNat, resRow, res_8x, res_9x, res_3x, WOT, evn])
       refine ⟨by omega, by omega, by omega, by omega, ?_⟩
       intro bp
       refine wcall_plain (pickI cb bp [ys.toArray[ix]!.at_, IntKind.i64.wrap (ys.toArray[ix]!.at_ - 1), 2251799813685248, 2251799813685249] (fun _ => True) (by simp) (by simp) (by simp)) (by simp -implicitDefEqProofs only [evr, id, reduceCtorEq, reduceIte, Nat.reduceMul, Nat.reduceAdd, Nat.reduceLT, Nat.reduceLeDiff, Nat.reduceEqDiff, Int.reduceLT, Int.reduceBEq, Int.reduceBNe, Nat.reduceBEq, ptr, res_one, res_ro, Int.reduceToNat, resRow, res_8x, res_9x, res_3x, evn]) plain_pick ?_
       rintro _ ⟨v, rfl, _⟩
       simp -implicitDefEqProofs only [evr, id, reduceCtorEq, reduceIte, Nat.reduceMul, Nat.reduceAdd, Nat.reduceLT, Nat.reduceLeDiff, Nat.reduceEqDiff, Int.reduceLT, Int.reduceBEq, Int.reduceBNe, Nat.reduceBEq, ptr, res_one, res_ro, Int.reduceToNat, resRow, res_8x, res_9x, res_3x, evn]
       refine ⟨by omega, by omega, ?_⟩
       refine hk _ ?_
       clear hk k
       simp only [thenK, blockK, reduceIte]
       refine ⟨ys.set ix { y with back := v }, ⟨List.length_set .., set_rg hys hgy⟩, ?_⟩
       simp -implicitDefEqProofs only [evr, id, reduceCtorEq, reduceIte, Nat.reduceMul, Nat.reduceAdd, Nat.reduceLT, Nat.reduceLeDiff, Nat.reduceEqDiff, Int.reduceLT, Int.reduceBEq, Int.reduceBNe, Nat.reduceBEq, ptr, res_one, res_ro, Int.reduceToNat, resRow, res_8x, res_9x, res_3x, evl, evn]
       exact rs_set hix { y with back := v } (by rw [hy]; exact all17 ⟨rfl, rfl, rfl, rfl, rfl, rfl, rfl, rfl, rfl, rfl, rfl, rfl, rfl, rfl, rfl, rfl, rfl⟩)
      ·(repeat refine Sat.seq ?_)
       (refine Sat.region_k fun k hk => ?_; simp -implicitDefEqProofs only [evr, id, reduceCtorEq, reduceIte, Nat.reduceMul, Nat.reduceAdd, Nat.reduceLT, Nat.reduceLeDiff, Nat.reduceEqDiff, Int.reduceLT, Int.reduceBEq, Int.reduceBNe, Nat.reduceBEq, ptr, res_one, res_ro, Int.reduceToNat, resRow, res_8x, res_9x, res_3x, evn]; refine hk _ ?_; clear hk k; try show Sat _ _ _ _ _)
       refine Sat.cond_b rfl (fun h => ?_) (fun h => ?_)
       ·(repeat refine Sat.seq ?_)
        (refine Sat.region_k fun k hk => ?_; simp -implicitDefEqProofs only [evr, id, reduceCtorEq, reduceIte, Nat.reduceMul, Nat.reduceAdd, Nat.reduceLT, Nat.reduceLeDiff, Nat.reduceEqDiff, Int.reduceLT, Int.reduceBEq, Int.reduceBNe, Nat.reduceBEq, ptr, res_one, res_ro, Int.reduceToNat, resRow, res_8x, res_9x, res_3x, evn])
        refine wcall_plain (nextC cb ys.length (by omega) (by omega)) rfl (by rintro _ ⟨x, rfl, _⟩; exact ok_plain rfl) ?_
        rintro _ ⟨q, rfl, hq0, hq1⟩
        obtain ⟨q, rfl⟩ := Int.eq_ofNat_of_zero_le hq0
        simp -implicitDefEqProofs only [evr, id, reduceCtorEq, reduceIte, Nat.reduceMul, Nat.reduceAdd, Nat.reduceLT, Nat.reduceLeDiff, Nat.reduceEqDiff, Int.reduceLT, Int.reduceBEq, Int.reduceBNe, Nat.reduceBEq, ptr, res_one, res_ro, Int.reduceToNat, resRow, res_8x, res_9x, res_3x, res_2x, evn]
        refine ⟨by omega, by omega, by omega, by omega, ?_⟩
        refine hk _ ?_
        clear hk k
        simp only [thenK, blockK, reduceIte]
        refine ⟨ys.set ix { y with number := (ys.toArray[q]!).number }, ⟨List.length_set .., set_rg hys hgy⟩, ?_⟩
        simp -implicitDefEqProofs only [evr, id, reduceCtorEq, reduceIte, Nat.reduceMul, Nat.reduceAdd, Nat.reduceLT, Nat.reduceLeDiff, Nat.reduceEqDiff, Int.reduceLT, Int.reduceBEq, Int.reduceBNe, Nat.reduceBEq, ptr, res_one, res_ro, Int.reduceToNat, resRow, res_8x, res_9x, res_3x, evl, evn]
        exact rs_set hix { y with number := (ys.toArray[q]!).number } (by rw [hy]; exact all17 ⟨rfl, rfl, rfl, rfl, rfl, rfl, rfl, rfl, rfl, rfl, rfl, rfl, rfl, rfl, rfl, rfl, rfl⟩)
       ·(repeat refine Sat.seq ?_)
        (refine Sat.region_k fun k hk => ?_; simp -implicitDefEqProofs only [evr, id, reduceCtorEq, reduceIte, Nat.reduceMul, Nat.reduceAdd, Nat.reduceLT, Nat.reduceLeDiff, Nat.reduceEqDiff, Int.reduceLT, Int.reduceBEq, Int.reduceBNe, Nat.reduceBEq, ptr, res_one, res_ro, Int.reduceToNat, resRow, res_8x, res_9x, res_3x, evn]; refine hk _ ?_; clear hk k; try show Sat _ _ _ _ _)
        refine Sat.cond_b rfl (fun h => ?_) (fun h => ?_)
        ·(repeat refine Sat.seq ?_)
         (refine Sat.region_k fun k hk => ?_; simp -implicitDefEqProofs only [evr, id, reduceCtorEq, reduceIte, Nat.reduceMul, Nat.reduceAdd, Nat.reduceLT, Nat.reduceLeDiff, Nat.reduceEqDiff, Int.reduceLT, Int.reduceBEq, Int.reduceBNe, Nat.reduceBEq, ptr, res_one, res_ro, Int.reduceToNat, resRow, res_8x, res_9x, res_3x, evn])
         refine wcall_plain (nextC cb 2 (by decide) (by decide)) rfl (by rintro _ ⟨x, rfl, _⟩; exact ok_plain rfl) ?_
         rintro _ ⟨q, rfl, hq0, hq1⟩
         simp -implicitDefEqProofs only [evr, id, reduceCtorEq, reduceIte, Nat.reduceMul, Nat.reduceAdd, Nat.reduceLT, Nat.reduceLeDiff, Nat.reduceEqDiff, Int.reduceLT, Int.reduceBEq, Int.reduceBNe, Nat.reduceBEq, ptr, res_one, res_ro, Int.reduceToNat, resRow, res_8x, res_9x, res_3x, evn]
         refine ⟨by omega, by omega, ?_⟩
         refine hk _ ?_
         clear hk k
         simp only [thenK, blockK, reduceIte]
         refine ⟨ys.set ix { y with dst := IntKind.u32.wrap q }, ⟨List.length_set .., set_rg hys ⟨w64_inAx (wrapA q), hgy.2⟩⟩, ?_⟩
         simp -implicitDefEqProofs only [evr, id, reduceCtorEq, reduceIte, Nat.reduceMul, Nat.reduceAdd, Nat.reduceLT, Nat.reduceLeDiff, Nat.reduceEqDiff, Int.reduceLT, Int.reduceBEq, Int.reduceBNe, Nat.reduceBEq, ptr, res_one, res_ro, Int.reduceToNat, resRow, res_8x, res_9x, res_3x, evl, evn]
         exact rs_set hix { y with dst := IntKind.u32.wrap q } (by rw [hy]; exact all17 ⟨rfl, rfl, rfl, rfl, rfl, rfl, rfl, rfl, rfl, rfl, rfl, rfl, rfl, rfl, rfl, rfl, rfl⟩)
        ·(repeat refine Sat.seq ?_)
         (refine Sat.region_k fun k hk => ?_; simp -implicitDefEqProofs only [evr, id, reduceCtorEq, reduceIte, Nat.reduceMul, Nat.reduceAdd, Nat.reduceLT, Nat.reduceLeDiff, Nat.reduceEqDiff, Int.reduceLT, Int.reduceBEq, Int.reduceBNe, Nat.reduceBEq, ptr, res_one, res_ro, Int.reduceToNat, resRow, res_8x, res_9x, res_3x, evn]; refine hk _ ?_; clear hk k; try show Sat _ _ _ _ _)
         refine Sat.cond_b rfl (fun h => ?_) (fun h => ?_)
         ·(repeat refine Sat.seq ?_)
          (refine Sat.region_k fun k hk => ?_; simp -implicitDefEqProofs only [evr, id, reduceCtorEq, reduceIte, Nat.reduceMul, Nat.reduceAdd, Nat.reduceLT, Nat.reduceLeDiff, Nat.reduceEqDiff, Int.reduceLT, Int.reduceBEq, Int.reduceBNe, Nat.reduceBEq, ptr, res_one, res_ro, Int.reduceToNat, resRow, res_8x, res_9x, res_3x, evn])
          refine ⟨by omega, by omega, by omega, by omega, ?_⟩
          refine hk _ ?_
          clear hk k
          simp only [thenK, blockK, reduceIte]
          refine ⟨ys.set ix { y with doubled := !y.doubled }, ⟨List.length_set .., set_rg hys hgy⟩, ?_⟩
          simp -implicitDefEqProofs only [evr, id, reduceCtorEq, reduceIte, Nat.reduceMul, Nat.reduceAdd, Nat.reduceLT, Nat.reduceLeDiff, Nat.reduceEqDiff, Int.reduceLT, Int.reduceBEq, Int.reduceBNe, Nat.reduceBEq, ptr, res_one, res_ro, Int.reduceToNat, resRow, res_8x, res_9x, res_3x, evl, evn]
          exact rs_set hix { y with doubled := !y.doubled } (by rw [hy]; exact all17 ⟨rfl, rfl, rfl, rfl, rfl, rfl, rfl, rfl, rfl, rfl, rfl, rfl, rfl, rfl, rfl, rfl, rfl⟩)
         ·(repeat refine Sat.seq ?_)
          (refine Sat.region_k fun k hk => ?_; simp -implicitDefEqProofs only [evr, id, reduceCtorEq, reduceIte, Nat.reduceMul, Nat.reduceAdd, Nat.reduceLT, Nat.reduceLeDiff, Nat.reduceEqDiff, Int.reduceLT, Int.reduceBEq, Int.reduceBNe, Nat.reduceBEq, ptr, res_one, res_ro, Int.reduceToNat, resRow, res_8x, res_9x, res_3x, evn]; refine hk _ ?_; clear hk k; try show Sat _ _ _ _ _)
          refine Sat.cond_b rfl (fun h => ?_) (fun h => ?_)
          ·(repeat refine Sat.seq ?_)
           (refine Sat.region_k fun k hk => ?_; simp -implicitDefEqProofs only [evr, id, reduceCtorEq, reduceIte, Nat.reduceMul, Nat.reduceAdd, Nat.reduceLT, Nat.reduceLeDiff, Nat.reduceEqDiff, Int.reduceLT, Int.reduceBEq, Int.reduceBNe, Nat.reduceBEq, ptr, res_one, res_ro, Int.reduceToNat, resRow, res_8x, res_9x, res_3x, evn])
           refine wcall_plain (nextC cb 7 (by decide) (by decide)) rfl (by rintro _ ⟨x, rfl, _⟩; exact ok_plain rfl) ?_
           rintro _ ⟨q, rfl, hq0, hq1⟩
           simp -implicitDefEqProofs only [evr, id, reduceCtorEq, reduceIte, Nat.reduceMul, Nat.reduceAdd, Nat.reduceLT, Nat.reduceLeDiff, Nat.reduceEqDiff, Int.reduceLT, Int.reduceBEq, Int.reduceBNe, Nat.reduceBEq, ptr, res_one, res_ro, Int.reduceToNat, resRow, res_8x, res_9x, res_3x, evn]
           refine ⟨by omega, by omega, ?_⟩
           refine hk _ ?_
           clear hk k
           simp only [thenK, blockK, reduceIte]
           refine ⟨ys.set ix { y with kind := q }, ⟨List.length_set .., set_rg hys hgy⟩, ?_⟩
           simp -implicitDefEqProofs only [evr, id, reduceCtorEq, reduceIte, Nat.reduceMul, Nat.reduceAdd, Nat.reduceLT, Nat.reduceLeDiff, Nat.reduceEqDiff, Int.reduceLT, Int.reduceBEq, Int.reduceBNe, Nat.reduceBEq, ptr, res_one, res_ro, Int.reduceToNat, resRow, res_8x, res_9x, res_3x, evl, evn]
           exact rs_set hix { y with kind := q } (by rw [hy]; exact all17 ⟨rfl, rfl, rfl, rfl, rfl, rfl, rfl, rfl, rfl, rfl, rfl, rfl, rfl, rfl, rfl, rfl, rfl⟩)
          ·refine Sat.skip ?_
           simp only [thenK, blockK, reduceIte]
           exact ⟨ys, ⟨rfl, hys⟩, by simp -implicitDefEqProofs only [evr, id, reduceCtorEq, reduceIte, Nat.reduceMul, Nat.reduceAdd, Nat.reduceLT, Nat.reduceLeDiff, Nat.reduceEqDiff, Int.reduceLT, Int.reduceBEq, Int.reduceBNe, Nat.reduceBEq, ptr, res_one, res_ro, Int.reduceToNat, resRow, res_8x, res_9x, res_3x, evl, evn]; try exact fun _ _ _ _ => rfl⟩
 rintro zs ⟨hz1, hz2⟩
 simp only [thenK]
 (repeat refine Sat.seq ?_)
 (refine Sat.region_k fun k hk => ?_; simp -implicitDefEqProofs only [evr, id, reduceCtorEq, reduceIte, Nat.reduceMul, Nat.reduceAdd, Nat.reduceLT, Nat.reduceLeDiff, Nat.reduceEqDiff, Int.reduceLT, Int.reduceBEq, Int.reduceBNe, Nat.reduceBEq, ptr, res_one, res_ro, Int.reduceToNat, resRow, res_8x, res_9x, res_3x, evn]; refine hk _ ?_; clear hk k; try show Sat _ _ _ _ _)
 refine Sat.ret ?_
 simp only [thenK, Tryz.results10, evr, id, reduceCtorEq, reduceIte, Nat.reduceMul, Nat.reduceAdd, Nat.reduceLT, Nat.reduceLeDiff, Nat.reduceEqDiff, Int.reduceLT, Int.reduceBEq, Int.reduceBNe, Nat.reduceBEq, ptr, res_one, res_ro, List.append_nil, Int.toNat_zero, Nat.sub_self, Int.reduceToNat, resRow, res_8x, res_9x, res_3x, retN, retNK, newRow]
 exact ⟨⟨rfl, rfl, rfl⟩, a, c, zs, hz2, by omega, by rw [hz1]⟩
end Go.Proofs.YtepbdjpcoleegaaGreat


/- Scenes, by the evaluator: dice.Proto, dice.Trace, dice.scene. -/
namespace Go.Proofs.YtepbdjpcoleegaaGreat
open Eng
set_option maxRecDepth 100000 in
theorem protoC (cb : Nat) : Contract (Frm.codes cb) Tryz.prog 73 [ptr cb] (fun r => ∃ x : Int, (x = 17 ∨ x = 1 ∨ x = 6) ∧ r = .i .i64 x) := by
 refine contract_of Tryz.func73 rfl (by kernel_rfl) ?_
 simp only [Tryz.ntmps73, argEnv, ptr]
 (repeat refine Sat.seq ?_)
 (refine Sat.region_k fun k hk => ?_; simp -implicitDefEqProofs only [evr, id, seval, ptr, evn]; refine hk _ ?_; clear hk k; try show Sat _ _ _ _ _)
 (repeat refine Sat.seq ?_)
 (refine Sat.region_k fun k hk => ?_; simp -implicitDefEqProofs only [evr, id, seval, ptr, evn])
 intro blk
 refine wcall_plain (pickI cb blk [17, 1, 6] (fun x => x = 17 ∨ x = 1 ∨ x = 6) (by decide) (by decide) (by simp)) (by simp -implicitDefEqProofs only [evr, id, seval, ptr, evn]) plain_pick ?_
 rintro r ⟨x, rfl, hx⟩
 simp -implicitDefEqProofs only [evr, id, seval, ptr, evn]
 (refine hk _ ?_; clear hk k; try show Sat _ _ _ _ _)
 refine Sat.ret ?_
 simp only [Tryz.results73, evr, id, reduceCtorEq, reduceIte, Nat.reduceMul, Nat.reduceAdd, Nat.reduceLT, Nat.reduceLeDiff, Nat.reduceEqDiff, Int.reduceLT, Int.reduceBEq, Int.reduceBNe, Nat.reduceBEq, ptr, List.append_nil, Int.toNat_zero, Nat.sub_self, Int.reduceToNat]
 exact ⟨_, hx, rfl⟩
def trS (v d p : Int) : SV := .agg 3 fun j => [SV.i .i64 v, .i .u32 d, .i .i64 p].getD j default
theorem trS_ok (v d p : Int) (R : Nat → Prop) (w : World) : (trS v d p).ok R w := by
 intro j hj
 rcases (show j = 0 ∨ j = 1 ∨ j = 2 by omega) with rfl | rfl | rfl <;> trivial
set_option maxRecDepth 100000 in
theorem traceC (cb : Nat) : Contract (Frm.codes cb) Tryz.prog 55 [ptr cb] (fun r => ∃ v d p : Int, (0 ≤ v ∧ v ≤ 1) ∧ (InA d ∧ d ≠ 0) ∧ (p = 17 ∨ p = 1 ∨ p = 6) ∧ r = trS v d p) := by
 refine contract_of Tryz.func55 rfl (by kernel_rfl) ?_
 simp only [Tryz.ntmps55, argEnv, ptr]
 (repeat refine Sat.seq ?_)
 (refine Sat.region_k fun k hk => ?_; simp -implicitDefEqProofs only [evr, id, seval, ptr, evn])
 intro blk
 (refine hk _ ?_; clear hk k; try show Sat _ _ _ _ _)
 (repeat refine Sat.seq ?_)
 (refine Sat.region_k fun k hk => ?_; simp -implicitDefEqProofs only [evr, id, seval, ptr, evn])
 refine wcall_plain (nextC cb 2 (by omega) (by omega)) rfl (by rintro _ ⟨x, rfl, _⟩; exact ok_plain rfl) ?_
 rintro r ⟨v, rfl, hv0, hv1⟩
 simp -implicitDefEqProofs only [evr, id, seval, ptr, evn]
 refine wcall_plain (nextC cb 3 (by omega) (by omega)) rfl (by rintro _ ⟨x, rfl, _⟩; exact ok_plain rfl) ?_
 rintro r ⟨d, rfl, hd0, hd1⟩
 simp -implicitDefEqProofs only [evr, id, seval, ptr, evn]
 refine wcall_plain (protoC cb) rfl (by rintro _ ⟨x, _, rfl⟩; exact ok_plain rfl) ?_
 rintro r ⟨p, hp, rfl⟩
 simp -implicitDefEqProofs only [evr, id, seval, ptr, evn]
 (refine hk _ ?_; clear hk k; try show Sat _ _ _ _ _)
 refine Sat.ret ?_
 simp only [Tryz.results55, evr, id, reduceCtorEq, reduceIte, Nat.reduceMul, Nat.reduceAdd, Nat.reduceLT, Nat.reduceLeDiff, Nat.reduceEqDiff, Int.reduceLT, Int.reduceBEq, Int.reduceBNe, Nat.reduceBEq, ptr, List.append_nil, Int.toNat_zero, Nat.sub_self, Int.reduceToNat]
 refine ⟨v, _, p, by omega, ⟨wrapA _, ?_⟩, hp, rfl⟩
 have ewd : IntKind.i64.wrap (167774464 + d) = 167774464 + d := w64 (by omega)
 rw [ewd, IntKind.wrap_u32]
 omega
structure Net where
 v : Int
 d : Int
 pr : Int
 a : Option Addr
 cap : Nat
 l : List PthP
 last : Int
instance : Inhabited Net := ⟨⟨0, 0, 0, none, 0, [], 0⟩⟩
def Net.cs (n : Net) : List SV := [.i .i64 n.v, .i .u32 n.d, .i .i64 n.pr, .sl n.a n.l.length n.cap 1 (psRd n.l), .i .u32 n.last]
structure NetOk (n : Net) : Prop where
 v : 0 ≤ n.v ∧ n.v ≤ 1
 d : InA n.d
 last : InA n.last
 some : 1 ≤ n.l.length ∧ n.l.length ≤ 3
 ps : PsOk 3 n.l
 d0 : n.d ≠ 0
 pr : n.pr = 17 ∨ n.pr = 1 ∨ n.pr = 6
set_option maxRecDepth 100000 in
theorem sceneC (cb : Nat) : Contract (Frm.codes cb) Tryz.prog 26 [ptr cb] (fun r => ∃ (n : Net) (f : Nat → SV), NetOk n ∧ r = .agg 5 f ∧ ∀ j, j < 5 → f j = n.cs.getD j default) := by
 refine contract_of Tryz.func26 rfl (by kernel_rfl) ?_
 simp only [Tryz.ntmps26, argEnv, ptr]
 (repeat refine Sat.seq ?_)
 (refine Sat.region_k fun k hk => ?_; simp -implicitDefEqProofs only [evr, id, seval, ptr, evn])
 intro b2
 (refine hk _ ?_; clear hk k; try show Sat _ _ _ _ _)
 (repeat refine Sat.seq ?_)
 (refine Sat.region_k fun k hk => ?_; simp -implicitDefEqProofs only [evr, id, seval, ptr, evn])
 refine wcall_plain (traceC cb) rfl (by rintro _ ⟨v, d, p, _, _, _, rfl⟩; exact trS_ok _ _ _) ?_
 rintro r ⟨v, d, p, hv, ⟨hd, hdn⟩, hpr, rfl⟩
 simp only [trS, evr, id, reduceCtorEq, reduceIte, Nat.reduceMul, Nat.reduceAdd, Nat.reduceLT, Nat.reduceLeDiff, Nat.reduceEqDiff, Int.reduceLT, Int.reduceBEq, Int.reduceBNe, Nat.reduceBEq, ptr, List.append_nil, Int.toNat_zero, Nat.sub_self, Int.reduceToNat]
 intro b3
 (refine hk _ ?_; clear hk k; try show Sat _ _ _ _ _)
 (repeat refine Sat.seq ?_)
 (refine Sat.region_k fun k hk => ?_; simp -implicitDefEqProofs only [evr, id, seval, ptr, evn])
 (refine hk _ ?_; clear hk k; try show Sat _ _ _ _ _)
 (repeat refine Sat.seq ?_)
 (refine Sat.region_k fun k hk => ?_; simp -implicitDefEqProofs only [evr, id, seval, ptr, evn])
 refine wcall_plain (boolC cb 4 (by decide) (by decide)) rfl plain_bool ?_
 rintro r ⟨q, rfl⟩
 simp -implicitDefEqProofs only [evr, id, seval, ptr, evn]
 (refine hk _ ?_; clear hk k; try show Sat _ _ _ _ _)
 (repeat refine Sat.seq ?_)
 refine Sat.atF (ι := Int) (fun u => ⟨74, [(3, .op 1 b3 0), (2, .op 0 b2 0), (0, .v (.pointer (some ⟨cb, 0, none⟩)))], [Own.box b2 64 [.i .i64 0, .i .u32 0, .i .i64 0, .sl none 0 0 0 fun _ _ => .v undef, .i .u32 0], .box b3 64 [.i .i64 v, .i .u32 d, .i .i64 p, .sl none 0 0 0 fun _ _ => .v undef, .i .u32 u]]⟩) InA ?_ ?_
 ·refine Sat.cond_b rfl (fun h => ?_) (fun h => ?_)
  ·(refine Sat.region_k fun k hk => ?_; simp -implicitDefEqProofs only [evr, id, seval, ptr, evn])
   refine wcall_plain (addrC cb) rfl plain_addrC ?_
   rintro r ⟨u, hu, rfl⟩
   simp -implicitDefEqProofs only [evr, id, seval, ptr, evn]
   refine hk _ ?_
   simp only [thenK]
   refine ⟨u, hu, ?_⟩
   simp -implicitDefEqProofs only [evr, id, seval, ptr, evl, evn]
  ·refine Sat.skip ?_
   simp only [thenK]
   refine ⟨d, hd, ?_⟩
   simp -implicitDefEqProofs only [evr, id, seval, ptr, evl, evn]
 intro u hu
 simp only [thenK]
 (repeat refine Sat.seq ?_)
 (refine Sat.region_k fun k hk => ?_; simp -implicitDefEqProofs only [evr, id, seval, ptr, evn])
 refine wcall_plain (nextC cb 3 (by omega) (by omega)) rfl (by rintro _ ⟨x, rfl, _⟩; exact ok_plain rfl) ?_
 rintro r ⟨x, rfl, hx0, hx1⟩
 obtain ⟨lg, hlg⟩ : ∃ lg : Nat, (lg : Int) = 1 + x := ⟨(1 + x).toNat, by omega⟩
 have hlg3 : lg ≤ 3 := by omega
 have e1 : IntKind.i64.wrap (1 + x) = (lg : Int) := by rw [w64 (by omega), hlg]
 simp -implicitDefEqProofs only [evr, id, seval, ptr, e1, evn]
 (refine hk _ ?_; clear hk k; try show Sat _ _ _ _ _)
 (repeat refine Sat.seq ?_)
 (refine Sat.region_k fun k hk => ?_; simp -implicitDefEqProofs only [evr, id, seval, ptr, evn]; refine hk _ ?_; clear hk k; try show Sat _ _ _ _ _)
 refine Sat.adoptBox 1 3 70 1 (psRd []) rfl rfl ?_
 simp -implicitDefEqProofs only [evr, id, seval, ptr, evn]
 (repeat refine Sat.seq ?_)
 refine Sat.block ?_
 refine Sat.loop (ι := Nat × Option Addr × Nat × List PthP) (fun z => ⟨74, [(5, .i .i64 z.1), (4, .i .i64 lg), (3, .op 1 b3 0), (2, .op 0 b2 0), (0, .v (.pointer (some ⟨cb, 0, none⟩)))], [Own.box b2 64 [.i .i64 0, .i .u32 0, .i .i64 0, .sl none 0 0 0 fun _ _ => .v undef, .i .u32 0], .box b3 64 [.i .i64 v, .i .u32 d, .i .i64 p, .os 2 z.2.1 z.2.2.2.length z.2.2.1, .i .u32 u], .row z.2.1 70 z.2.2.2.length z.2.2.1 1 (psRd z.2.2.2)]⟩)
  (fun z => z.2.2.2.length = z.1 ∧ z.1 ≤ 3 ∧ PsOk 3 z.2.2.2) (fun z => 3 - z.1) (0, none, 0, []) ⟨rfl, by simp, fun q h => by cases h⟩ (by simp -implicitDefEqProofs only [evr, id, seval, ptr, evl, evn]; first | rfl | trace_state) ?_
 rintro ⟨f, a, c, l⟩ ⟨hfl, hf3, hl⟩
 simp only at hfl hf3 hl ⊢
 (repeat refine Sat.seq ?_)
 (refine Sat.region_k fun k hk => ?_; simp -implicitDefEqProofs only [evr, id, seval, ptr, evn])
 refine wcall_plain (nextC cb 3 (by omega) (by omega)) rfl (by rintro _ ⟨x, rfl, _⟩; exact ok_plain rfl) ?_
 rintro r ⟨x2, rfl, hy0, hy1⟩
 have e2 : IntKind.i64.wrap (1 + x2) = 1 + x2 := w64 (by omega)
 simp -implicitDefEqProofs only [evr, id, seval, ptr, e2, evn]
 (refine hk _ ?_; clear hk k; try show Sat _ _ _ _ _)
 (repeat refine Sat.seq ?_)
 refine Sat.cond_b rfl (fun h => ?_) (fun h => ?_)
 ·have h1 : f < 3 := by simp only [decide_eq_true_eq] at h; omega
  have e3 : IntKind.i64.wrap ((f : Int) + 1) = ((f + 1 : Nat) : Int) := by rw [w64 (by omega)]; omega
  refine Sat.skip ?_
  simp only [thenK]
  (repeat refine Sat.seq ?_)
  refine Sat.block ?_
  (repeat refine Sat.seq ?_)
  (refine Sat.region_k fun k hk => ?_; simp -implicitDefEqProofs only [evr, id, seval, ptr, evn]; refine hk _ ?_; clear hk k; try show Sat _ _ _ _ _)
  (repeat refine Sat.seq ?_)
  (refine Sat.region_k fun k hk => ?_; simp -implicitDefEqProofs only [evr, id, seval, ptr, evn]; refine hk _ ?_; clear hk k; try show Sat _ _ _ _ _)
  refine Sat.adopt 6 25 1 (adRd []) rfl ?_
  (repeat refine Sat.seq ?_)
  refine Sat.block ?_
  refine Sat.loop (ι := Nat × Option Addr × Nat × List Int) (fun z => ⟨74, [(7, .i .i64 z.1), (6, .os 3 z.2.1 z.2.2.2.length z.2.2.1), (5, .i .i64 f), (4, .i .i64 lg), (3, .op 1 b3 0), (2, .op 0 b2 0), (0, .v (.pointer (some ⟨cb, 0, none⟩)))], [Own.box b2 64 [.i .i64 0, .i .u32 0, .i .i64 0, .sl none 0 0 0 fun _ _ => .v undef, .i .u32 0], .box b3 64 [.i .i64 v, .i .u32 d, .i .i64 p, .os 2 a l.length c, .i .u32 u], .row a 70 l.length c 1 (psRd l), .row z.2.1 25 z.2.2.2.length z.2.2.1 1 (adRd z.2.2.2)]⟩)
   (fun z => z.2.2.2.length = z.1 ∧ z.1 ≤ lg ∧ ∀ x ∈ z.2.2.2, InA x) (fun z => lg - z.1) (0, none, 0, []) ⟨rfl, by simp, fun q h => by cases h⟩ (by simp -implicitDefEqProofs only [evr, id, seval, ptr, evl, evn]; first | rfl | trace_state) ?_
  rintro ⟨i, pa, pc, pl⟩ ⟨hpl, hi3, hpi⟩
  simp only at hpl hi3 hpi ⊢
  (repeat refine Sat.seq ?_)
  (refine Sat.region_k fun k hk => ?_; simp -implicitDefEqProofs only [evr, id, seval, ptr, evn]; refine hk _ ?_; clear hk k; try show Sat _ _ _ _ _)
  (repeat refine Sat.seq ?_)
  refine Sat.cond_b rfl (fun h => ?_) (fun h => ?_)
  ·have h2 : i < lg := by simp only [decide_eq_true_eq] at h; omega
   have e4 : IntKind.i64.wrap ((i : Int) + 1) = ((i + 1 : Nat) : Int) := by rw [w64 (by omega)]; omega
   refine Sat.skip ?_
   simp only [thenK]
   (repeat refine Sat.seq ?_)
   refine Sat.block ?_
   (repeat refine Sat.seq ?_)
   (refine Sat.region_k fun k hk => ?_; simp -implicitDefEqProofs only [evr, id, seval, ptr, evn])
   refine wcall_plain (addrC cb) rfl plain_addrC ?_
   rintro r ⟨y, hy, rfl⟩
   simp -implicitDefEqProofs only [evr, id, seval, ptr, evn]
   (refine hk _ ?_; clear hk k; try show Sat _ _ _ _ _)
   (repeat refine Sat.seq ?_)
   (refine Sat.region_k fun k hk => ?_; simp -implicitDefEqProofs only [evr, id, seval, ptr, evn])
   refine wcall_plain (boolC cb 6 (by decide) (by decide)) rfl plain_bool ?_
   rintro r ⟨q6, rfl⟩
   simp -implicitDefEqProofs only [evr, id, seval, ptr, evn]
   (refine hk _ ?_; clear hk k; try show Sat _ _ _ _ _)
   (repeat refine Sat.seq ?_)
   refine Sat.atF (ι := Int) (fun w => ⟨74, [(8, .i .u32 w), (7, .i .i64 i), (6, .os 3 pa pl.length pc), (5, .i .i64 f), (4, .i .i64 lg), (3, .op 1 b3 0), (2, .op 0 b2 0), (0, .v (.pointer (some ⟨cb, 0, none⟩)))], [Own.box b2 64 [.i .i64 0, .i .u32 0, .i .i64 0, .sl none 0 0 0 fun _ _ => .v undef, .i .u32 0], .box b3 64 [.i .i64 v, .i .u32 d, .i .i64 p, .os 2 a l.length c, .i .u32 u], .row a 70 l.length c 1 (psRd l), .row pa 25 pl.length pc 1 (adRd pl)]⟩) InA ?_ ?_
   ·refine Sat.cond_b rfl (fun h => ?_) (fun h => ?_)
    ·(refine Sat.region_k fun k hk => ?_; simp -implicitDefEqProofs only [evr, id, seval, ptr, evn])
     refine hk _ ?_
     simp only [thenK]
     refine ⟨0, ⟨by omega, by omega⟩, ?_⟩
     simp -implicitDefEqProofs only [evr, id, seval, ptr, evl, evn]
    ·refine Sat.skip ?_
     simp only [thenK]
     refine ⟨y, hy, ?_⟩
     simp -implicitDefEqProofs only [evr, id, seval, ptr, evl, evn]
   intro w hw
   simp only [thenK]
   (repeat refine Sat.seq ?_)
   obtain ⟨q, hq⟩ : ∃ q, q = l.getD 0 default := ⟨_, rfl⟩
   have hqs : psRd l 0 0 = .sl q.a q.p.length q.cap 1 (adRd q.p) := by rw [hq]; rfl
   refine Sat.atF (ι := Bool) (fun b => ⟨74, [(55, .b b), (8, .i .u32 w), (7, .i .i64 i), (6, .os 3 pa pl.length pc), (5, .i .i64 f), (4, .i .i64 lg), (3, .op 1 b3 0), (2, .op 0 b2 0), (0, .v (.pointer (some ⟨cb, 0, none⟩)))], [Own.box b2 64 [.i .i64 0, .i .u32 0, .i .i64 0, .sl none 0 0 0 fun _ _ => .v undef, .i .u32 0], .box b3 64 [.i .i64 v, .i .u32 d, .i .i64 p, .os 2 a l.length c, .i .u32 u], .row a 70 l.length c 1 (psRd l), .row pa 25 pl.length pc 1 (adRd pl)]⟩) (fun b => b = true → 0 < f ∧ i < q.p.length) ?_ ?_
   ·(refine Sat.region_k fun k hk => ?_; simp -implicitDefEqProofs only [evr, id, reduceCtorEq, reduceIte, Nat.reduceMul, Nat.reduceAdd, Nat.reduceLT, Nat.reduceLeDiff, Nat.reduceEqDiff, Int.reduceLT, Int.reduceBEq, Int.reduceBNe, Nat.reduceBEq, ptr, Int.reduceToNat, evn])
    simp -implicitDefEqProofs only [evr, id, reduceCtorEq, reduceIte, Nat.reduceMul, Nat.reduceAdd, Nat.reduceLT, Nat.reduceLeDiff, Nat.reduceEqDiff, Int.reduceLT, Int.reduceBEq, Int.reduceBNe, Nat.reduceBEq, ptr, Int.reduceToNat, hqs, evn]
    refine ⟨fun g1 => ⟨⟨by omega, by omega⟩, by omega, fun g2 => ?_, fun g2 => hk _ ?_⟩, fun g1 => hk _ ?_⟩
    ·refine wcall_plain (boolC cb 3 (by decide) (by decide)) rfl plain_bool ?_
     rintro r ⟨q7, rfl⟩
     simp -implicitDefEqProofs only [evr, id, seval, ptr, evn]
     refine hk _ ?_
     simp only [thenK]
     refine ⟨!q7, fun _ => ⟨by omega, by omega⟩, ?_⟩
     simp -implicitDefEqProofs only [evr, id, seval, ptr, evl, evn]
    ·simp only [thenK]
     refine ⟨false, fun h => (by cases h), ?_⟩
     simp -implicitDefEqProofs only [evr, id, seval, ptr, evl, evn]
    ·simp only [thenK]
     refine ⟨false, fun h => (by cases h), ?_⟩
     simp -implicitDefEqProofs only [evr, id, seval, ptr, evl, evn]
   intro b hb
   simp only [thenK]
   (repeat refine Sat.seq ?_)
   refine Sat.atF (ι := Int) (fun w2 => ⟨74, [(8, .i .u32 w2), (7, .i .i64 i), (6, .os 3 pa pl.length pc), (5, .i .i64 f), (4, .i .i64 lg), (3, .op 1 b3 0), (2, .op 0 b2 0), (0, .v (.pointer (some ⟨cb, 0, none⟩)))], [Own.box b2 64 [.i .i64 0, .i .u32 0, .i .i64 0, .sl none 0 0 0 fun _ _ => .v undef, .i .u32 0], .box b3 64 [.i .i64 v, .i .u32 d, .i .i64 p, .os 2 a l.length c, .i .u32 u], .row a 70 l.length c 1 (psRd l), .row pa 25 pl.length pc 1 (adRd pl)]⟩) InA ?_ ?_
   ·refine Sat.cond_b rfl (fun h => ?_) (fun h => ?_)
    ·obtain ⟨g1, g2⟩ := hb h
     (refine Sat.region_k fun k hk => ?_; simp -implicitDefEqProofs only [evr, id, reduceCtorEq, reduceIte, Nat.reduceMul, Nat.reduceAdd, Nat.reduceLT, Nat.reduceLeDiff, Nat.reduceEqDiff, Int.reduceLT, Int.reduceBEq, Int.reduceBNe, Nat.reduceBEq, ptr, Int.reduceToNat, evn])
     simp -implicitDefEqProofs only [evr, id, reduceCtorEq, reduceIte, Nat.reduceMul, Nat.reduceAdd, Nat.reduceLT, Nat.reduceLeDiff, Nat.reduceEqDiff, Int.reduceLT, Int.reduceBEq, Int.reduceBNe, Nat.reduceBEq, ptr, Int.reduceToNat, hqs, evn]
     refine ⟨⟨by omega, by omega⟩, by omega, by omega, ?_⟩
     refine hk _ ?_
     simp only [thenK]
     refine ⟨q.p.getD i 0, ?_, ?_⟩
     ·exact (hl q (by rw [hq]; exact getD_mem (by omega))).2 _ (getD_mem g2)
     ·simp -implicitDefEqProofs only [evr, id, seval, ptr, evl, evn]
      rfl
    ·refine Sat.skip ?_
     simp only [thenK]
     refine ⟨w, hw, ?_⟩
     simp -implicitDefEqProofs only [evr, id, seval, ptr, evl, evn]
   intro w2 hw2
   simp only [thenK, blockK]
   (repeat refine Sat.seq ?_)
   (refine Sat.region_k fun k hk => ?_; simp -implicitDefEqProofs only [evr, id, seval, ptr, evn])
   intro b9
   refine ⟨⟨by unfold maxLen; omega, by omega⟩, fun a2 cap2 => ?_⟩
   (refine hk _ ?_; clear hk k; try show Sat _ _ _ _ _)
   refine Sat.region_k fun k hk => ?_
   simp -implicitDefEqProofs only [evr, id, seval, ptr, e4, evn]
   refine hk _ ?_
   simp only [thenK, blockK]
   refine ⟨(i + 1, a2, cap2, pl ++ [w2]), ⟨by simp; omega, by simp only; omega, fun x hx => ?_⟩, by simp only; omega, ?_⟩
   ·rcases List.mem_append.1 hx with h | h
    ·exact hpi x h
    ·simp only [List.mem_singleton] at h; subst h; exact hw2
   ·simp only [List.length_append, List.length_singleton]
    simp -implicitDefEqProofs only [evr, id, seval, ptr, evl, evn]
    exact ad_app
  ·refine Sat.exit ?_
   simp only [thenK, blockK, reduceIte]
   refine Sat.settle2 6 rfl rfl ?_
   simp -implicitDefEqProofs only [evr, id, seval, ptr, evn]
   (refine Sat.region_k fun k hk => ?_; simp -implicitDefEqProofs only [evr, id, seval, ptr, evn])
   intro b9
   refine ⟨⟨by unfold maxLen; omega, by omega⟩, fun a2 cap2 => ?_⟩
   (refine hk _ ?_; clear hk k; try show Sat _ _ _ _ _)
   refine Sat.region_k fun k hk => ?_
   simp -implicitDefEqProofs only [evr, id, seval, ptr, e3, evn]
   refine hk _ ?_
   simp only [thenK, blockK]
   refine ⟨(f + 1, a2, cap2, l ++ [⟨pa, pc, pl⟩]), ⟨by simp; omega, by simp only; omega, fun x hx => ?_⟩, by simp only; omega, ?_⟩
   ·rcases List.mem_append.1 hx with h | h
    ·exact hl x h
    ·simp only [List.mem_singleton] at h; subst h; exact ⟨by simp only; omega, hpi⟩
   ·simp only [List.length_append, List.length_singleton]
    simp -implicitDefEqProofs only [evr, id, seval, ptr, evl, evn]
    exact ps_app rfl
 ·refine Sat.exit ?_
  simp only [thenK, blockK, reduceIte]
  have hf0 : 0 < f := by
   simp only [decide_eq_false_iff_not] at h
   omega
  (repeat refine Sat.seq ?_)
  (refine Sat.region_k fun k hk => ?_; simp -implicitDefEqProofs only [evr, id, seval, ptr, evn])
  (refine hk _ ?_; clear hk k; try show Sat _ _ _ _ _)
  refine Sat.ret ?_
  simp only [Tryz.results26, evr, id, reduceCtorEq, reduceIte, Nat.reduceMul, Nat.reduceAdd, Nat.reduceLT, Nat.reduceLeDiff, Nat.reduceEqDiff, Int.reduceLT, Int.reduceBEq, Int.reduceBNe, Nat.reduceBEq, ptr, List.append_nil, Int.toNat_zero, Nat.sub_self, Int.reduceToNat]
  refine ⟨⟨v, d, p, a, c, l, u⟩, _, ⟨hv, hd, hu, ⟨by simp only; omega, by simp only; omega⟩, hl, hdn, hpr⟩, rfl, fun j hj => ?_⟩
  rcases (show j = 0 ∨ j = 1 ∨ j = 2 ∨ j = 3 ∨ j = 4 by omega) with rfl | rfl | rfl | rfl | rfl <;> simp -implicitDefEqProofs only [evr, id, seval, ptr, Net.cs, evn]
end Go.Proofs.YtepbdjpcoleegaaGreat


/- Results, by the evaluator: dice.Results (of paths that may change, or not): each has a number of its own at its vantage. -/
namespace Go.Proofs.YtepbdjpcoleegaaGreat
open Go.Sort Eng
def netRd (ns : List Net) : Nat → Nat → SV := fun i j => (Net.cs (ns.getD i default)).getD j default
theorem net_one (ns : List Net) (i j : Nat) (h : j < 5) : oneS (netRd ns i j) = true := by
 rcases (show j = 0 ∨ j = 1 ∨ j = 2 ∨ j = 3 ∨ j = 4 by omega) with rfl | rfl | rfl | rfl | rfl <;> rfl
theorem net_one1 {n : Net} {cs : List SV} (h : cs = n.cs) : rdEq 1 5 (rdL cs 5) (netRd [n]) := by
 subst h
 intro i j hi hj
 obtain rfl : i = 0 := by omega
 unfold rdL netRd
 simp
theorem net_two {n m : Net} : rdEq 2 5 (rdCat 1 (rdL n.cs 5) (rdL m.cs 5)) (netRd [n, m]) := by
 intro i j hi hj
 rcases (show i = 0 ∨ i = 1 by omega) with rfl | rfl <;> simp [rdCat, rdL, netRd]
def Net.with (n m : Net) : Net := ⟨n.v, n.d, n.pr, m.a, m.cap, m.l, n.last⟩
theorem NetOk.with {n m : Net} (h : NetOk n) (g : NetOk m) : NetOk (n.with m) := ⟨h.v, h.d, h.last, g.some, g.ps, h.d0, h.pr⟩
theorem net_set {ns : List Net} {i N : Nat} {m : Net} (hi : i < ns.length) : rdEq N 5 (rdSet (netRd ns) i 3 [.sl m.a m.l.length m.cap 1 (psRd m.l)]) (netRd (ns.set i ((ns.getD i default).with m))) := by
 intro p j hp hj
 unfold rdSet netRd
 by_cases e : p = i
 ·subst e
  have hg : (ns.set p ((ns.getD p default).with m)).getD p default = (ns.getD p default).with m := by simp [List.getD, hi]
  rw [hg]
  rcases (show j = 0 ∨ j = 1 ∨ j = 2 ∨ j = 3 ∨ j = 4 by omega) with rfl | rfl | rfl | rfl | rfl <;> simp [Net.cs, Net.with]
 ·have hg : (ns.set i ((ns.getD i default).with m)).getD p default = ns.getD p default := by simp [List.getD, Ne.symm e]
  rw [hg, if_neg (fun h => e h.1)]
theorem res_appS {ys : List Res} {x : Res} {cs : List SV} (h : simA cs (Res.cs x)) : ∀ i j, i < ys.length + 1 → j < 17 → sim (rdCat ys.length (resRd ys.toArray) (rdL cs 17) i j) (resRd (ys ++ [x]).toArray i j) := by
 intro i j hi hj
 unfold rdCat
 by_cases e : i < ys.length
 ·rw [if_pos e]
  have : resRd ys.toArray i j = resRd (ys ++ [x]).toArray i j := by unfold resRd; simp [getElem!_def, List.getElem?_append, e]
  rw [this]
  exact sim_refl _
 ·obtain rfl : i = ys.length := by omega
  rw [if_neg e]
  have e1 : resRd (ys ++ [x]).toArray ys.length j = (Res.cs x).getD j default := by unfold resRd; simp [getElem!_def]
  have e2 : rdL cs 17 (ys.length - ys.length) j = cs.getD j default := by unfold rdL; simp
  rw [e1, e2]
  exact simA_getD h j
structure RltI (xs : List Res) (n0 n1 : Nat) : Prop where
 inr : ∀ r ∈ xs, RgR r
 num : ∀ r ∈ xs, (r.vantage = 0 ∧ r.number < n0) ∨ (r.vantage = 1 ∧ r.number < n1)
 own : ∀ r ∈ xs, ∀ s ∈ xs, r.vantage = s.vantage → r.number = s.number → r = s
 val : ∀ r ∈ xs, validR r = true
 nd : xs.Pairwise fun r s => ¬ (r.vantage = s.vantage ∧ r.number = s.number)
theorem RltI.nil : RltI [] 0 0 := ⟨fun r h => (by cases h), fun r h => (by cases h), fun r h => (by cases h), fun r h => (by cases h), .nil⟩
theorem RltI.snoc0 {xs : List Res} {n0 n1 : Nat} {r : Res} (h : RltI xs n0 n1) (hr : RgR r) (hval : validR r = true) (hv : r.vantage = 0) (hn : r.number = n0) : RltI (xs ++ [r]) (n0 + 1) n1 := by
 refine ⟨fun s hs => ?_, fun s hs => ?_, fun s hs t ht e1 e2 => ?_, fun s hs => ?_, ?_⟩
 ·rcases List.mem_append.1 hs with hs | hs
  ·exact h.inr s hs
  ·rw [List.mem_singleton.1 hs]; exact hr
 ·rcases List.mem_append.1 hs with hs | hs
  ·rcases h.num s hs with ⟨a, b⟩ | ⟨a, b⟩
   ·exact .inl ⟨a, by omega⟩
   ·exact .inr ⟨a, b⟩
  ·rw [List.mem_singleton.1 hs]; exact .inl ⟨hv, by omega⟩
 ·rcases List.mem_append.1 hs with hs | hs <;> rcases List.mem_append.1 ht with ht | ht
  ·exact h.own s hs t ht e1 e2
  ·rw [List.mem_singleton.1 ht] at e1 e2
   rcases h.num s hs with ⟨a, b⟩ | ⟨a, b⟩ <;> omega
  ·rw [List.mem_singleton.1 hs] at e1 e2
   rcases h.num t ht with ⟨a, b⟩ | ⟨a, b⟩ <;> omega
  ·rw [List.mem_singleton.1 hs, List.mem_singleton.1 ht]
 ·rcases List.mem_append.1 hs with hs | hs
  ·exact h.val s hs
  ·rw [List.mem_singleton.1 hs]; exact hval
 ·refine List.pairwise_append.2 ⟨h.nd, List.pairwise_singleton _ _, fun s hs t ht e => ?_⟩
  rw [List.mem_singleton.1 ht] at e
  rcases h.num s hs with ⟨a, b⟩ | ⟨a, b⟩ <;> omega
theorem RltI.snoc1 {xs : List Res} {n0 n1 : Nat} {r : Res} (h : RltI xs n0 n1) (hr : RgR r) (hval : validR r = true) (hv : r.vantage = 1) (hn : r.number = n1) : RltI (xs ++ [r]) n0 (n1 + 1) := by
 refine ⟨fun s hs => ?_, fun s hs => ?_, fun s hs t ht e1 e2 => ?_, fun s hs => ?_, ?_⟩
 ·rcases List.mem_append.1 hs with hs | hs
  ·exact h.inr s hs
  ·rw [List.mem_singleton.1 hs]; exact hr
 ·rcases List.mem_append.1 hs with hs | hs
  ·rcases h.num s hs with ⟨a, b⟩ | ⟨a, b⟩
   ·exact .inl ⟨a, b⟩
   ·exact .inr ⟨a, by omega⟩
  ·rw [List.mem_singleton.1 hs]; exact .inr ⟨hv, by omega⟩
 ·rcases List.mem_append.1 hs with hs | hs <;> rcases List.mem_append.1 ht with ht | ht
  ·exact h.own s hs t ht e1 e2
  ·rw [List.mem_singleton.1 ht] at e1 e2
   rcases h.num s hs with ⟨a, b⟩ | ⟨a, b⟩ <;> omega
  ·rw [List.mem_singleton.1 hs] at e1 e2
   rcases h.num t ht with ⟨a, b⟩ | ⟨a, b⟩ <;> omega
  ·rw [List.mem_singleton.1 hs, List.mem_singleton.1 ht]
 ·rcases List.mem_append.1 hs with hs | hs
  ·exact h.val s hs
  ·rw [List.mem_singleton.1 hs]; exact hval
 ·refine List.pairwise_append.2 ⟨h.nd, List.pairwise_singleton _ _, fun s hs t ht e => ?_⟩
  rw [List.mem_singleton.1 ht] at e
  rcases h.num s hs with ⟨a, b⟩ | ⟨a, b⟩ <;> omega
theorem w64_inA {x : Int} (h : InA x) : w64i x = x := w64 ⟨by have := h.1; omega, by have := h.2; omega⟩
def AnsOk (b8 b9 : Bool) (fr kind left id quo : Int) : Prop :=
 (b8 = true ∧ fr ≠ 0 ∧ (1 ≤ kind ∧ kind ≤ 5) ∧ left = 60 ∧ (0 ≤ id ∧ id ≤ 65535) ∧ quo = 1) ∨ (b8 = false ∧ b9 = false ∧ fr = 0 ∧ kind = 0 ∧ left = 0 ∧ id = 0 ∧ quo = 0)
theorem rlt_valid {v num at' d pr fl ttl back fr kind left id quo : Int} {b8 b9 : Bool} (hv : 0 ≤ v ∧ v ≤ 1) (hn : 0 ≤ num ∧ num < 1000) (ha : 0 ≤ at' ∧ at' ≤ back ∧ back ≤ 1000000) (hd : d ≠ 0) (hp : pr = 17 ∨ pr = 1 ∨ pr = 6) (hf : 0 ≤ fl ∧ fl ≤ 3) (ht : 1 ≤ ttl ∧ ttl ≤ 4) (h : AnsOk b8 b9 fr kind left id quo) :
  validR ⟨v, 0, num, at', d, pr, fl, ttl, b8, b9, back, fr, kind, 0, left, id, quo⟩ = true := by
 have h1 : badRange ⟨v, 0, num, at', d, pr, fl, ttl, b8, b9, back, fr, kind, 0, left, id, quo⟩ = false := by
  unfold badRange idOk
  simp
  omega
 have h2 : badProto ⟨v, 0, num, at', d, pr, fl, ttl, b8, b9, back, fr, kind, 0, left, id, quo⟩ = false := by
  unfold badProto
  simp
  omega
 unfold validR chk
 rw [h1, h2]
 rcases h with ⟨rfl, hf, hk, rfl, hi, rfl⟩ | ⟨rfl, rfl, rfl, rfl, rfl, rfl, rfl⟩
 ·have h3 : badState ⟨v, 0, num, at', d, pr, fl, ttl, true, b9, back, fr, kind, 0, 60, id, 1⟩ = false := rfl
  have h4 : badAnswer ⟨v, 0, num, at', d, pr, fl, ttl, true, b9, back, fr, kind, 0, 60, id, 1⟩ = false := by
   unfold badAnswer octOk
   simp
   omega
  rw [h3, h4]
  simp [hd, hf]
 ·have h3 : badState ⟨v, 0, num, at', d, pr, fl, ttl, false, false, back, 0, 0, 0, 0, 0, 0⟩ = false := rfl
  have h4 : badAnswer ⟨v, 0, num, at', d, pr, fl, ttl, false, false, back, 0, 0, 0, 0, 0, 0⟩ = false := rfl
  rw [h3, h4]
  simp [hd]
structure RlP where
 k : Nat
 at_ : Int
 id : Int
 na : Option Addr
 nc : Nat
 ns : List Net
 ra : Option Addr
 rc : Nat
 xs : List Res
 n0 : Nat
 n1 : Nat
def numCs (n0 n1 : Nat) : List SV := [.i .i64 n0, .i .i64 n1, .i .i64 0, .i .i64 0, .i .i64 0, .i .i64 0, .i .i64 0, .i .i64 0, .i .i64 0, .i .i64 0, .i .i64 0, .i .i64 0, .i .i64 0, .i .i64 0, .i .i64 0, .i .i64 0]
def rlEnv (st : Bool) (cb most : Nat) (k : Nat) (at' id : Int) (bn : Nat) (ra : Option Addr) (rc rn : Nat) (na : Option Addr) (nc nn : Nat) : List (Nat × SV) :=
 [(12, .i .i64 k), (11, .op 1 bn 0), (10, .i .i64 id), (9, .i .i64 at'), (8, .os 2 ra rn rc), (7, .os 0 na nn nc), (0, .v (.pointer (some ⟨cb, 0, none⟩))), (1, .i .i64 most), (2, .b st)]
def rlOwn (bn : Nat) (na : Option Addr) (nc : Nat) (ns : List Net) (ra : Option Addr) (rc : Nat) (xs : List Res) (n0 n1 : Nat) (more : List Eng.Own) : List Eng.Own :=
 .row na 64 ns.length nc 5 (netRd ns) :: .box bn 69 (numCs n0 n1) :: .row ra 51 xs.length rc 17 (resRd xs.toArray) :: more
def RlOk (most m : Nat) (z : RlP) : Prop := z.xs.length + z.k ≤ most ∧ z.ns.length = m ∧ (∀ n ∈ z.ns, NetOk n) ∧ RltI z.xs z.n0 z.n1 ∧ z.n0 ≤ z.xs.length ∧ z.n1 ≤ z.xs.length ∧ (0 ≤ z.at_ ∧ z.at_ ≤ 50 + 70 * z.xs.length) ∧ (0 ≤ z.id ∧ z.id ≤ 70000 + 5 * z.xs.length)
def rlCs (v num at' d pr fl ttl : Int) (s8 s9 : SV) (back fr kind left id quoted : Int) : List SV := [.i .i64 v, .i .i64 0, .i .i64 num, .i .i64 at', .i .u32 d, .i .i64 pr, .i .i64 fl, .i .i64 ttl, s8, s9, .i .i64 back, .i .u32 fr, .i .i64 kind, .i .i64 0, .i .i64 left, .i .i64 id, .i .i64 quoted]
def rlBox (b14 b17 : Nat) (n : Net) (cs : List SV) : List Eng.Own := [.box b14 64 [.i .i64 n.v, .i .u32 n.d, .i .i64 n.pr, .sl n.a n.l.length n.cap 1 (psRd n.l), .i .u32 n.last], .box b17 51 cs]
set_option maxRecDepth 100000 in
set_option maxHeartbeats 4000000 in
theorem resultsC (st : Bool) (cb : Nat) (most : Nat) (hm : most ≤ 1000) :
  ContractN (Frm.codes cb) Tryz.prog 6 [ptr cb, .i .i64 most, .b st] (fun o => ∃ (a : Option Addr) (cap : Nat) (xs : List Res) (n0 n1 : Nat), RltI xs n0 n1 ∧ xs.length ≤ most ∧ o = resRow a xs.length cap xs.toArray) := by
 refine contractN_of Tryz.func6 rfl (by kernel_rfl) ?_
 simp only [Tryz.ntmps6, argEnv, ptr]
 (repeat refine Sat.seq ?_)
 (refine Sat.region_k fun k hk => ?_; simp -implicitDefEqProofs only [evr, id, seval, ptr, res_one, resRow, net_one, rlEnv, rlOwn, numCs, rlCs, rlBox, evn]; refine hk _ ?_; clear hk k; try show Sat _ _ _ _ _)
 (repeat refine Sat.seq ?_)
 (refine Sat.region_k fun k hk => ?_; simp -implicitDefEqProofs only [evr, id, seval, ptr, res_one, resRow, net_one, rlEnv, rlOwn, numCs, rlCs, rlBox, evn])
 refine wcall_slice (sceneC cb) rfl rfl ?_
 rintro r ⟨n, f, hn, rfl, hf⟩
 have f0 : f 0 = .i .i64 n.v := hf 0 (by omega)
 have f1 : f 1 = .i .u32 n.d := hf 1 (by omega)
 have f2 : f 2 = .i .i64 n.pr := hf 2 (by omega)
 have f3 : f 3 = .sl n.a n.l.length n.cap 1 (psRd n.l) := hf 3 (by omega)
 have f4 : f 4 = .i .u32 n.last := hf 4 (by omega)
 simp -implicitDefEqProofs only [evr, id, seval, ptr, res_one, resRow, net_one, rlEnv, rlOwn, numCs, rlCs, rlBox, f0, f1, f2, f3, f4, evn]
 intro b7
 (refine hk _ ?_; clear hk k; try show Sat _ _ _ _ _)
 (repeat refine Sat.seq ?_)
 (refine Sat.region_k fun k hk => ?_; simp -implicitDefEqProofs only [evr, id, seval, ptr, res_one, resRow, net_one, rlEnv, rlOwn, numCs, rlCs, rlBox, evn])
 refine wcall_plain (boolC cb 3 (by decide) (by decide)) rfl plain_bool ?_
 rintro r ⟨q, rfl⟩
 simp -implicitDefEqProofs only [evr, id, seval, ptr, res_one, resRow, net_one, rlEnv, rlOwn, numCs, rlCs, rlBox, evn]
 (refine hk _ ?_; clear hk k; try show Sat _ _ _ _ _)
 (repeat refine Sat.seq ?_)
 refine Sat.atF (ι := Option Addr × Nat × List Net) (fun z => ⟨175, [(7, .os 0 z.1 z.2.2.length z.2.1), (0, .v (.pointer (some ⟨cb, 0, none⟩))), (1, .i .i64 most), (2, .b st)], [.row z.1 64 z.2.2.length z.2.1 5 (netRd z.2.2)]⟩) (fun z => (1 ≤ z.2.2.length ∧ z.2.2.length ≤ 2) ∧ ∀ m ∈ z.2.2, NetOk m) ?_ ?_
 ·refine Sat.cond_b rfl (fun h => ?_) (fun h => ?_)
  ·(refine Sat.region_k fun k hk => ?_; simp -implicitDefEqProofs only [evr, id, seval, ptr, res_one, resRow, net_one, rlEnv, rlOwn, numCs, rlCs, rlBox, evn])
   refine wcall_slice (sceneC cb) rfl rfl ?_
   rintro r ⟨n2, g, hn2, rfl, hg⟩
   have g0 : g 0 = .i .i64 n2.v := hg 0 (by omega)
   have g1 : g 1 = .i .u32 n2.d := hg 1 (by omega)
   have g2 : g 2 = .i .i64 n2.pr := hg 2 (by omega)
   have g3 : g 3 = .sl n2.a n2.l.length n2.cap 1 (psRd n2.l) := hg 3 (by omega)
   have g4 : g 4 = .i .u32 n2.last := hg 4 (by omega)
   simp -implicitDefEqProofs only [evr, id, seval, ptr, res_one, resRow, net_one, rlEnv, rlOwn, numCs, rlCs, rlBox, g0, g1, g2, g3, g4, evn]
   intro b8
   refine ⟨by unfold maxLen; omega, fun a2 cap2 => hk _ ?_⟩
   simp only [thenK]
   refine ⟨(a2, cap2, [n, n2]), ⟨⟨by simp, by simp⟩, fun m hm => ?_⟩, ?_⟩
   ·rcases List.mem_cons.1 hm with rfl | hm
    ·exact hn
    ·rw [List.mem_singleton.1 hm]; exact hn2
   ·simp -implicitDefEqProofs only [evr, id, seval, ptr, res_one, resRow, net_one, rlEnv, rlOwn, numCs, rlCs, rlBox, evl, evn]
    exact net_two
  ·refine Sat.skip ?_
   simp only [thenK]
   refine ⟨(some ⟨b7, 0, none⟩, 1, [n]), ⟨⟨by simp, by simp⟩, fun m hm => by rw [List.mem_singleton.1 hm]; exact hn⟩, ?_⟩
   simp -implicitDefEqProofs only [evr, id, seval, ptr, res_one, resRow, net_one, rlEnv, rlOwn, numCs, rlCs, rlBox, evl, evn]
   exact net_one1 rfl
 rintro ⟨na, nc, ns⟩ ⟨hns, hnok⟩
 simp only [thenK] at hns hnok ⊢
 (repeat refine Sat.seq ?_)
 (refine Sat.region_k fun k hk => ?_; simp -implicitDefEqProofs only [evr, id, seval, ptr, res_one, resRow, net_one, rlEnv, rlOwn, numCs, rlCs, rlBox, evn]; refine hk _ ?_; clear hk k; try show Sat _ _ _ _ _)
 (repeat refine Sat.seq ?_)
 (refine Sat.region_k fun k hk => ?_; simp -implicitDefEqProofs only [evr, id, seval, ptr, res_one, resRow, net_one, rlEnv, rlOwn, numCs, rlCs, rlBox, evn])
 refine wcall_plain (nextC cb 50 (by omega) (by omega)) rfl (by rintro _ ⟨x, rfl, _⟩; exact ok_plain rfl) ?_
 rintro r ⟨at0, rfl, ha0, ha1⟩
 simp -implicitDefEqProofs only [evr, id, seval, ptr, res_one, resRow, net_one, rlEnv, rlOwn, numCs, rlCs, rlBox, evn]
 refine wcall_plain (nextC cb 700 (by omega) (by omega)) rfl (by rintro _ ⟨x, rfl, _⟩; exact ok_plain rfl) ?_
 rintro r ⟨id0, rfl, hb0, hb1⟩
 simp -implicitDefEqProofs only [evr, id, seval, ptr, res_one, resRow, net_one, rlEnv, rlOwn, numCs, rlCs, rlBox, evn]
 have ew0 : IntKind.i64.wrap (100 * id0) = 100 * id0 := w64 (by omega)
 obtain ⟨id1, hid1, hid2, hid3⟩ : ∃ y, IntKind.i64.wrap (100 * id0) = y ∧ 0 ≤ y ∧ y ≤ 70000 := ⟨_, rfl, by rw [ew0]; omega, by rw [ew0]; omega⟩
 simp only [hid1]
 clear ew0 hid1
 (refine hk _ ?_; clear hk k; try show Sat _ _ _ _ _)
 (repeat refine Sat.seq ?_)
 (refine Sat.region_k fun k hk => ?_; simp -implicitDefEqProofs only [evr, id, seval, ptr, res_one, resRow, net_one, rlEnv, rlOwn, numCs, rlCs, rlBox, evn])
 intro bn
 (refine hk _ ?_; clear hk k; try show Sat _ _ _ _ _)
 (repeat refine Sat.seq ?_)
 have e1 : IntKind.i64.wrap ((most : Int) + 1) = (most : Int) + 1 := w64 (by omega)
 (refine Sat.region_k fun k hk => ?_; simp -implicitDefEqProofs only [evr, id, seval, ptr, res_one, resRow, net_one, rlEnv, rlOwn, numCs, rlCs, rlBox, evn])
 refine wcall_plain (nextC cb ((most : Int) + 1) (by omega) (by omega)) (by simp -implicitDefEqProofs only [evr, id, seval, ptr, res_one, resRow, net_one, rlEnv, rlOwn, numCs, rlCs, rlBox, e1, evn]) (by rintro _ ⟨x, rfl, _⟩; exact ok_plain rfl) ?_
 rintro r ⟨x, rfl, hx0, hx1⟩
 obtain ⟨k0, rfl⟩ := Int.eq_ofNat_of_zero_le hx0
 simp -implicitDefEqProofs only [evr, id, seval, ptr, res_one, resRow, net_one, rlEnv, rlOwn, numCs, rlCs, rlBox, evn]
 (refine hk _ ?_; clear hk k; try show Sat _ _ _ _ _)
 refine Sat.adopt 8 51 17 (resRd #[]) rfl ?_
 simp -implicitDefEqProofs only [evr, id, seval, ptr, res_one, resRow, net_one, rlEnv, rlOwn, numCs, rlCs, rlBox, evn]
 refine Sat.block ?_
 refine Sat.loop (ι := RlP) (fun z => ⟨175, rlEnv st cb most z.k z.at_ z.id bn z.ra z.rc z.xs.length z.na z.nc z.ns.length, rlOwn bn z.na z.nc z.ns z.ra z.rc z.xs z.n0 z.n1 []⟩)
  (RlOk most ns.length) (fun z => z.k) ⟨k0, at0, id1, na, nc, ns, none, 0, [], 0, 0⟩ ⟨by simp only [List.length_nil]; omega, rfl, hnok, RltI.nil, Nat.le_refl _, Nat.le_refl _, ⟨by simp only; omega, by simp only; omega⟩, ⟨by simp only; omega, by simp only; omega⟩⟩ (by simp -implicitDefEqProofs only [evr, id, seval, ptr, res_one, resRow, net_one, rlEnv, rlOwn, numCs, rlCs, rlBox, evl, evn]; first | rfl | trace_state) ?_
 have hm0 : ∃ m, m = ns.length := ⟨_, rfl⟩
 obtain ⟨m, hm0⟩ := hm0
 rw [← hm0] at hns ⊢
 clear hm0 hnok ns na nc
 rintro ⟨k1, at1, id2, na, nc, ns, ra, rc, xs, n0, n1⟩ ⟨hxk, hnl, hnok, hI, hn0, hn1, ⟨hat0, hat1⟩, ⟨hid0, hid1⟩⟩
 simp only [rlEnv, rlOwn, numCs] at hxk hnl hnok hI hn0 hn1 hat0 hat1 hid0 hid1 ⊢
 (repeat refine Sat.seq ?_)
 (refine Sat.region_k fun k hk => ?_; simp -implicitDefEqProofs only [evr, id, seval, ptr, res_one, resRow, net_one, rlEnv, rlOwn, numCs, rlCs, rlBox, evn]; refine hk _ ?_; clear hk k; try show Sat _ _ _ _ _)
 (repeat refine Sat.seq ?_)
 refine Sat.cond_b rfl (fun h => ?_) (fun h => ?_)
 ·have h0 : 0 < k1 := by simp only [decide_eq_true_eq] at h; omega
  have e2 : IntKind.i64.wrap ((k1 : Int) - 1) = ((k1 - 1 : Nat) : Int) := by rw [w64 (by omega)]; omega
  refine Sat.skip ?_
  simp only [thenK]
  (repeat refine Sat.seq ?_)
  refine Sat.block ?_
  (repeat refine Sat.seq ?_)
  (refine Sat.region_k fun k hk => ?_; simp -implicitDefEqProofs only [evr, id, seval, ptr, res_one, resRow, net_one, rlEnv, rlOwn, numCs, rlCs, rlBox, evn])
  refine wcall_plain (nextC cb ns.length (by omega) (by omega)) (by simp -implicitDefEqProofs only [evr, id, seval, ptr, res_one, resRow, net_one, rlEnv, rlOwn, numCs, rlCs, rlBox, evn]) (by rintro _ ⟨x, rfl, _⟩; exact ok_plain rfl) ?_
  rintro r ⟨x, rfl, hi0, hi1⟩
  obtain ⟨i, rfl⟩ := Int.eq_ofNat_of_zero_le hi0
  have hi : i < ns.length := by omega
  simp -implicitDefEqProofs only [evr, id, seval, ptr, res_one, resRow, net_one, rlEnv, rlOwn, numCs, rlCs, rlBox, evn]
  (refine hk _ ?_; clear hk k; try show Sat _ _ _ _ _)
  (repeat refine Sat.seq ?_)
  refine Sat.joinK (ι := Bool) (fun q => ⟨175, (51, .b q) :: (13, .i .i64 i) :: rlEnv st cb most k1 at1 id2 bn ra rc xs.length na nc ns.length, rlOwn bn na nc ns ra rc xs n0 n1 []⟩) (fun _ => True) (fun hrest => ?_) ?_
  ·(refine Sat.region_k fun k hk => ?_; simp -implicitDefEqProofs only [evr, id, seval, ptr, res_one, resRow, net_one, rlEnv, rlOwn, numCs, rlCs, rlBox, evn])
   refine ⟨fun hs => ?_, fun hs => ?_⟩
   ·refine wcall_plain (boolC cb 12 (by decide) (by decide)) rfl plain_bool ?_
    rintro r ⟨q2, rfl⟩
    simp -implicitDefEqProofs only [evr, id, seval, ptr, res_one, resRow, net_one, rlEnv, rlOwn, numCs, rlCs, rlBox, evn]
    refine hk _ ?_
    simp only [thenK]
    refine (hrest q2 trivial).le ?_
    simp only [rlEnv, rlOwn, numCs]
    simp -implicitDefEqProofs only [evr, id, seval, ptr, res_one, resRow, net_one, rlEnv, rlOwn, numCs, rlCs, rlBox, evl, evn]
   ·refine hk _ ?_
    simp only [thenK]
    refine (hrest false trivial).le ?_
    simp only [rlEnv, rlOwn, numCs]
    simp -implicitDefEqProofs only [evr, id, seval, ptr, res_one, resRow, net_one, rlEnv, rlOwn, numCs, rlCs, rlBox, evl, evn]
  rintro q2 -
  simp only [rlEnv, rlOwn, numCs]
  (repeat refine Sat.seq ?_)
  refine Sat.atF (ι := List Net) (fun z => ⟨175, (13, .i .i64 i) :: rlEnv st cb most k1 at1 id2 bn ra rc xs.length na nc ns.length, rlOwn bn na nc z ra rc xs n0 n1 []⟩) (fun z => z.length = ns.length ∧ ∀ n ∈ z, NetOk n) ?_ ?_
  ·refine Sat.cond_b rfl (fun h => ?_) (fun h => ?_)
   ·(refine Sat.region_k fun k hk => ?_; simp -implicitDefEqProofs only [evr, id, seval, ptr, res_one, resRow, net_one, rlEnv, rlOwn, numCs, rlCs, rlBox, evn])
    refine wcall_slice (sceneC cb) rfl rfl ?_
    rintro r ⟨n2, g, hn2, rfl, hg⟩
    have g3 : g 3 = .sl n2.a n2.l.length n2.cap 1 (psRd n2.l) := hg 3 (by omega)
    simp -implicitDefEqProofs only [evr, id, seval, ptr, res_one, resRow, net_one, rlEnv, rlOwn, numCs, rlCs, rlBox, g3, evn]
    refine ⟨by omega, by omega, hk _ ?_⟩
    simp only [thenK]
    refine ⟨ns.set i ((ns.getD i default).with n2), ⟨by simp, fun n hn => ?_⟩, ?_⟩
    ·rcases List.mem_or_eq_of_mem_set hn with h | h
     ·exact hnok n h
     ·subst h; exact (hnok _ (getD_mem hi)).with hn2
    ·simp only [rlOwn, List.length_set]
     simp -implicitDefEqProofs only [evr, id, seval, ptr, res_one, resRow, net_one, rlEnv, rlOwn, numCs, rlCs, rlBox, evl, evn]
     exact net_set hi
   ·refine Sat.skip ?_
    simp only [thenK]
    refine ⟨ns, ⟨rfl, hnok⟩, ?_⟩
    simp -implicitDefEqProofs only [evr, id, seval, ptr, res_one, resRow, net_one, rlEnv, rlOwn, numCs, rlCs, rlBox, evl, evn]
  intro zs
  rintro ⟨hzl, hzok⟩
  simp only [thenK, rlEnv, rlOwn, numCs]
  rw [← hzl] at hnl hi ⊢
  obtain ⟨n, hn⟩ : ∃ n, n = zs.getD i default := ⟨_, rfl⟩
  have hnk : NetOk n := by rw [hn]; exact hzok _ (getD_mem hi)
  have p0 : netRd zs i 0 = .i .i64 n.v := by rw [hn]; rfl
  have p1 : netRd zs i 1 = .i .u32 n.d := by rw [hn]; rfl
  have p2 : netRd zs i 2 = .i .i64 n.pr := by rw [hn]; rfl
  have p3 : netRd zs i 3 = .sl n.a n.l.length n.cap 1 (psRd n.l) := by rw [hn]; rfl
  have p4 : netRd zs i 4 = .i .u32 n.last := by rw [hn]; rfl
  have hnl1 := hnk.some
  (repeat refine Sat.seq ?_)
  (refine Sat.region_k fun k hk => ?_; simp -implicitDefEqProofs only [evr, id, seval, ptr, res_one, resRow, net_one, rlEnv, rlOwn, numCs, rlCs, rlBox, evn])
  simp only [p0, p1, p2, p3, p4, evr, id, reduceCtorEq, reduceIte, Nat.reduceMul, Nat.reduceAdd, Nat.reduceLT, Nat.reduceLeDiff, Nat.reduceEqDiff, Int.reduceLT, Int.reduceBEq, Int.reduceBNe, Nat.reduceBEq, ptr, res_one, List.append_nil, Int.toNat_zero, Nat.sub_self, Int.reduceToNat, resRow, net_one, rlEnv, rlOwn, numCs, rlCs, rlBox]
  refine ⟨by omega, by omega, ?_⟩
  intro b14
  (refine hk _ ?_; clear hk k; try show Sat _ _ _ _ _)
  (repeat refine Sat.seq ?_)
  (refine Sat.region_k fun k hk => ?_; simp -implicitDefEqProofs only [evr, id, seval, ptr, res_one, resRow, net_one, rlEnv, rlOwn, numCs, rlCs, rlBox, evn])
  refine wcall_plain (nextC cb n.l.length (by omega) (by omega)) (by simp -implicitDefEqProofs only [evr, id, seval, ptr, res_one, resRow, net_one, rlEnv, rlOwn, numCs, rlCs, rlBox, evn]) (by rintro _ ⟨x, rfl, _⟩; exact ok_plain rfl) ?_
  rintro r ⟨x, rfl, hf0, hf1⟩
  obtain ⟨fl, rfl⟩ := Int.eq_ofNat_of_zero_le hf0
  have hfl : fl < n.l.length := by omega
  simp -implicitDefEqProofs only [evr, id, seval, ptr, res_one, resRow, net_one, rlEnv, rlOwn, numCs, rlCs, rlBox, evn]
  (refine hk _ ?_; clear hk k; try show Sat _ _ _ _ _)
  obtain ⟨pq, hpq⟩ : ∃ pq, pq = n.l.getD fl default := ⟨_, rfl⟩
  have hps : psRd n.l fl 0 = .sl pq.a pq.p.length pq.cap 1 (adRd pq.p) := by rw [hpq]; rfl
  have hpok := hnk.ps pq (by rw [hpq]; exact getD_mem hfl)
  have hpl3 := hpok.1
  (repeat refine Sat.seq ?_)
  (refine Sat.region_k fun k hk => ?_; simp -implicitDefEqProofs only [evr, id, seval, ptr, res_one, resRow, net_one, rlEnv, rlOwn, numCs, rlCs, rlBox, evn])
  simp only [hps, evr, id, reduceCtorEq, reduceIte, Nat.reduceMul, Nat.reduceAdd, Nat.reduceLT, Nat.reduceLeDiff, Nat.reduceEqDiff, Int.reduceLT, Int.reduceBEq, Int.reduceBNe, Nat.reduceBEq, ptr, res_one, List.append_nil, Int.toNat_zero, Nat.sub_self, Int.reduceToNat, resRow, net_one, rlEnv, rlOwn, numCs, rlCs, rlBox]
  refine ⟨by omega, ?_⟩
  (refine hk _ ?_; clear hk k; try show Sat _ _ _ _ _)
  (repeat refine Sat.seq ?_)
  (refine Sat.region_k fun k hk => ?_; simp -implicitDefEqProofs only [evr, id, seval, ptr, res_one, resRow, net_one, rlEnv, rlOwn, numCs, rlCs, rlBox, evn])
  refine wcall_plain (nextC cb 40 (by omega) (by omega)) rfl (by rintro _ ⟨x, rfl, _⟩; exact ok_plain rfl) ?_
  rintro r ⟨x40, rfl, hc0, hc1⟩
  simp -implicitDefEqProofs only [evr, id, seval, ptr, res_one, resRow, net_one, rlEnv, rlOwn, numCs, rlCs, rlBox, evn]
  have ew1 : IntKind.i64.wrap (1 + x40) = 1 + x40 := w64 (by omega)
  have ew2 : IntKind.i64.wrap (at1 + (1 + x40)) = at1 + (1 + x40) := w64 (by omega)
  obtain ⟨at2, hat2, hat3, hat4⟩ : ∃ y, IntKind.i64.wrap (at1 + IntKind.i64.wrap (1 + x40)) = y ∧ at1 ≤ y ∧ y ≤ at1 + 40 := ⟨_, rfl, by rw [ew1, ew2]; omega, by rw [ew1, ew2]; omega⟩
  simp only [hat2]
  clear ew1 ew2 hat2
  (refine hk _ ?_; clear hk k; try show Sat _ _ _ _ _)
  (repeat refine Sat.seq ?_)
  refine Sat.atF (ι := Int × Int × Nat) (fun z => ⟨175, (17, .op 4 z.2.2 0) :: (16, .sl pq.a pq.p.length pq.cap 1 (adRd pq.p)) :: (15, .i .i64 fl) :: (14, .op 3 b14 0) :: rlEnv st cb most k1 at2 id2 bn ra rc xs.length na nc zs.length, rlOwn bn na nc zs ra rc xs n0 n1 (rlBox b14 z.2.2 n (rlCs n.v z.1 at2 n.d n.pr fl z.2.1 (.b false) (.b false) 0 0 0 0 0 0))⟩)
   (fun z => (1 ≤ z.2.1 ∧ z.2.1 ≤ pq.p.length + 1) ∧ ((n.v = 0 ∧ z.1 = n0) ∨ (n.v = 1 ∧ z.1 = n1))) ?_ ?_
  ·have e5 : IntKind.i64.wrap ((pq.p.length : Int) + 1) = (pq.p.length : Int) + 1 := w64 (by omega)
   rcases (show n.v = 0 ∨ n.v = 1 by have := hnk.v; omega) with hv | hv
   ·simp only [hv]
    (refine Sat.region_tree (.keep [0, 1, 3, 4, 8, 9, 10, 12, 13, 15, 16, 17, 18, 19, 2, 5, 11, 14, 6, 7] [20, 21, 22, 23] (.alt 20 (.free 21 (.free 22 (.one 23 (.one 24 .done)))) (.alt 23 (.one 20 (.one 21 (.one 22 (.one 24 .done)))) .none))) (by kernel_rfl) (by kernel_rfl) (fun _ _ h => h) fun k hk => ?_; simp only [WOT, List.map_cons, List.map_nil, List.getD_cons_zero, List.getD_cons_succ]; simp -implicitDefEqProofs only [evr, id, reduceCtorEq, reduceIte, Nat.reduceMul, Nat.reduceAdd, Nat.reduceLT, Nat.reduceLeDiff, Nat.reduceEqDiff, Int.reduceLT, Int.reduceBEq, Int.reduceBNe, Nat.reduceBEq, ptr, res_one, Int.reduceToNat, resRow, net_one, rlEnv, rlOwn, numCs, rlCs, rlBox, WOT, evn])
    simp -implicitDefEqProofs only [evr, id, reduceCtorEq, reduceIte, Nat.reduceMul, Nat.reduceAdd, Nat.reduceLT, Nat.reduceLeDiff, Nat.reduceEqDiff, Int.reduceLT, Int.reduceBEq, Int.reduceBNe, Nat.reduceBEq, ptr, res_one, Int.reduceToNat, resRow, net_one, rlEnv, rlOwn, numCs, rlCs, rlBox, e5, evn]
    refine ⟨by omega, ?_, ?_⟩
    ·skip
     refine wcall_plain (nextC cb ((pq.p.length : Int) + 1) (by omega) (by omega)) rfl (by rintro _ ⟨x, rfl, _⟩; exact ok_plain rfl) ?_
     rintro r ⟨x3, rfl, g0, g1⟩
     have e6 : IntKind.i64.wrap (1 + x3) = 1 + x3 := w64 (by omega)
     simp -implicitDefEqProofs only [evr, id, seval, ptr, res_one, resRow, net_one, rlEnv, rlOwn, numCs, rlCs, rlBox, e6, evn]
     intro b17
     refine hk _ ?_
     simp only [thenK]
     refine ⟨(n0, 1 + x3, b17), ⟨⟨by simp only; omega, by simp only; omega⟩, .inl ⟨trivial, rfl⟩⟩, ?_⟩
     simp -implicitDefEqProofs only [evr, id, seval, ptr, res_one, resRow, net_one, rlEnv, rlOwn, numCs, rlCs, rlBox, evl, evn]
     rw [hv]
    ·intro b17
     refine wcall_plain (nextC cb ((pq.p.length : Int) + 1) (by omega) (by omega)) rfl (by rintro _ ⟨x, rfl, _⟩; exact ok_plain rfl) ?_
     rintro r ⟨x3, rfl, g0, g1⟩
     have e6 : IntKind.i64.wrap (1 + x3) = 1 + x3 := w64 (by omega)
     simp -implicitDefEqProofs only [evr, id, seval, ptr, res_one, resRow, net_one, rlEnv, rlOwn, numCs, rlCs, rlBox, e6, evn]
     refine hk _ ?_
     simp only [thenK]
     refine ⟨(n0, 1 + x3, b17), ⟨⟨by simp only; omega, by simp only; omega⟩, .inl ⟨trivial, rfl⟩⟩, ?_⟩
     simp -implicitDefEqProofs only [evr, id, seval, ptr, res_one, resRow, net_one, rlEnv, rlOwn, numCs, rlCs, rlBox, evl, evn]
     rw [hv]
   ·simp only [hv]
    (refine Sat.region_tree (.keep [0, 1, 3, 4, 8, 9, 10, 12, 13, 15, 16, 17, 18, 19, 2, 5, 11, 14, 6, 7] [20, 21, 22, 23] (.alt 20 (.free 21 (.free 22 (.one 23 (.one 24 .done)))) (.alt 23 (.one 20 (.one 21 (.one 22 (.one 24 .done)))) .none))) (by kernel_rfl) (by kernel_rfl) (fun _ _ h => h) fun k hk => ?_; simp only [WOT, List.map_cons, List.map_nil, List.getD_cons_zero, List.getD_cons_succ]; simp -implicitDefEqProofs only [evr, id, reduceCtorEq, reduceIte, Nat.reduceMul, Nat.reduceAdd, Nat.reduceLT, Nat.reduceLeDiff, Nat.reduceEqDiff, Int.reduceLT, Int.reduceBEq, Int.reduceBNe, Nat.reduceBEq, ptr, res_one, Int.reduceToNat, resRow, net_one, rlEnv, rlOwn, numCs, rlCs, rlBox, WOT, evn])
    simp -implicitDefEqProofs only [evr, id, reduceCtorEq, reduceIte, Nat.reduceMul, Nat.reduceAdd, Nat.reduceLT, Nat.reduceLeDiff, Nat.reduceEqDiff, Int.reduceLT, Int.reduceBEq, Int.reduceBNe, Nat.reduceBEq, ptr, res_one, Int.reduceToNat, resRow, net_one, rlEnv, rlOwn, numCs, rlCs, rlBox, e5, evn]
    refine ⟨by omega, ?_, ?_⟩
    ·skip
     refine wcall_plain (nextC cb ((pq.p.length : Int) + 1) (by omega) (by omega)) rfl (by rintro _ ⟨x, rfl, _⟩; exact ok_plain rfl) ?_
     rintro r ⟨x3, rfl, g0, g1⟩
     have e6 : IntKind.i64.wrap (1 + x3) = 1 + x3 := w64 (by omega)
     simp -implicitDefEqProofs only [evr, id, seval, ptr, res_one, resRow, net_one, rlEnv, rlOwn, numCs, rlCs, rlBox, e6, evn]
     intro b17
     refine hk _ ?_
     simp only [thenK]
     refine ⟨(n1, 1 + x3, b17), ⟨⟨by simp only; omega, by simp only; omega⟩, .inr ⟨trivial, rfl⟩⟩, ?_⟩
     simp -implicitDefEqProofs only [evr, id, seval, ptr, res_one, resRow, net_one, rlEnv, rlOwn, numCs, rlCs, rlBox, evl, evn]
     rw [hv]
    ·intro b17
     refine wcall_plain (nextC cb ((pq.p.length : Int) + 1) (by omega) (by omega)) rfl (by rintro _ ⟨x, rfl, _⟩; exact ok_plain rfl) ?_
     rintro r ⟨x3, rfl, g0, g1⟩
     have e6 : IntKind.i64.wrap (1 + x3) = 1 + x3 := w64 (by omega)
     simp -implicitDefEqProofs only [evr, id, seval, ptr, res_one, resRow, net_one, rlEnv, rlOwn, numCs, rlCs, rlBox, e6, evn]
     refine hk _ ?_
     simp only [thenK]
     refine ⟨(n1, 1 + x3, b17), ⟨⟨by simp only; omega, by simp only; omega⟩, .inr ⟨trivial, rfl⟩⟩, ?_⟩
     simp -implicitDefEqProofs only [evr, id, seval, ptr, res_one, resRow, net_one, rlEnv, rlOwn, numCs, rlCs, rlBox, evl, evn]
     rw [hv]
  rintro ⟨num, ttl, b17⟩ ⟨httl, hnum⟩
  simp only [thenK, rlEnv, rlOwn, numCs, rlCs, rlBox] at httl hnum ⊢
  (repeat refine Sat.seq ?_)
  refine Sat.atF (ι := Nat × Nat) (fun z => ⟨175, (17, .op 4 b17 0) :: (16, .sl pq.a pq.p.length pq.cap 1 (adRd pq.p)) :: (15, .i .i64 fl) :: (14, .op 3 b14 0) :: rlEnv st cb most k1 at2 id2 bn ra rc xs.length na nc zs.length, rlOwn bn na nc zs ra rc xs z.1 z.2 (rlBox b14 b17 n (rlCs n.v num at2 n.d n.pr fl ttl (.b false) (.b false) 0 0 0 0 0 0))⟩)
   (fun z => (n.v = 0 ∧ num = n0 ∧ z.1 = n0 + 1 ∧ z.2 = n1) ∨ (n.v = 1 ∧ num = n1 ∧ z.1 = n0 ∧ z.2 = n1 + 1)) ?_ ?_
  ·have e7 : IntKind.i64.wrap ((n0 : Int) + 1) = ((n0 + 1 : Nat) : Int) := by rw [w64 (by omega)]; omega
   have e8 : IntKind.i64.wrap ((n1 : Int) + 1) = ((n1 + 1 : Nat) : Int) := by rw [w64 (by omega)]; omega
   rcases hnum with ⟨hv, hnm⟩ | ⟨hv, hnm⟩
   ·simp only [hv]
    (refine Sat.region_k fun k hk => ?_; simp -implicitDefEqProofs only [evr, id, reduceCtorEq, reduceIte, Nat.reduceMul, Nat.reduceAdd, Nat.reduceLT, Nat.reduceLeDiff, Nat.reduceEqDiff, Int.reduceLT, Int.reduceBEq, Int.reduceBNe, Nat.reduceBEq, ptr, res_one, Int.reduceToNat, resRow, net_one, rlEnv, rlOwn, numCs, rlCs, rlBox, evn])
    simp only [e7]
    refine ⟨by omega, by omega, hk _ ?_⟩
    simp only [thenK]
    refine ⟨(n0 + 1, n1), .inl ⟨trivial, hnm, rfl, rfl⟩, ?_⟩
    simp -implicitDefEqProofs only [evr, id, seval, ptr, res_one, resRow, net_one, rlEnv, rlOwn, numCs, rlCs, rlBox, evl, evn]
    simp only [hv]
   ·simp only [hv]
    (refine Sat.region_k fun k hk => ?_; simp -implicitDefEqProofs only [evr, id, reduceCtorEq, reduceIte, Nat.reduceMul, Nat.reduceAdd, Nat.reduceLT, Nat.reduceLeDiff, Nat.reduceEqDiff, Int.reduceLT, Int.reduceBEq, Int.reduceBNe, Nat.reduceBEq, ptr, res_one, Int.reduceToNat, resRow, net_one, rlEnv, rlOwn, numCs, rlCs, rlBox, evn])
    simp only [e8]
    refine ⟨by omega, by omega, hk _ ?_⟩
    simp only [thenK]
    refine ⟨(n0, n1 + 1), .inr ⟨trivial, hnm, rfl, rfl⟩, ?_⟩
    simp -implicitDefEqProofs only [evr, id, seval, ptr, res_one, resRow, net_one, rlEnv, rlOwn, numCs, rlCs, rlBox, evl, evn]
    simp only [hv]
  rintro ⟨m0, m1⟩ hnew
  simp only [thenK, rlEnv, rlOwn, numCs, rlCs, rlBox] at hnew ⊢
  (repeat refine Sat.seq ?_)
  refine Sat.atF (ι := Int) (fun z => ⟨175, (17, .op 4 b17 0) :: (16, .sl pq.a pq.p.length pq.cap 1 (adRd pq.p)) :: (15, .i .i64 fl) :: (14, .op 3 b14 0) :: rlEnv st cb most k1 at2 id2 bn ra rc xs.length na nc zs.length, rlOwn bn na nc zs ra rc xs m0 m1 (rlBox b14 b17 n (rlCs n.v num at2 n.d n.pr fl ttl (.b false) (.b false) z 0 0 0 0 0))⟩) (fun z => at2 ≤ z ∧ z ≤ at2 + 23) ?_ ?_
  ·(refine Sat.region_tree (.keep [0, 2, 6, 1, 3, 4, 5] [7] (.one 7 (.one 8 (.one 9 (.one 10 .done))))) (by kernel_rfl) (by kernel_rfl) (fun _ _ h => h) fun k hk => ?_; simp only [WOT, List.map_cons, List.map_nil, List.getD_cons_zero, List.getD_cons_succ]; simp -implicitDefEqProofs only [evr, id, seval, ptr, res_one, resRow, net_one, rlEnv, rlOwn, numCs, rlCs, rlBox, WOT, evn])
   refine wcall_plain (nextC cb 4 (by omega) (by omega)) rfl (by rintro _ ⟨x, rfl, _⟩; exact ok_plain rfl) ?_
   rintro r ⟨x4, rfl, hd0, hd1⟩
   have ew3 : IntKind.i64.wrap (5 * ttl) = 5 * ttl := w64 (by omega)
   have ew4 : IntKind.i64.wrap (at2 + 5 * ttl) = at2 + 5 * ttl := w64 (by omega)
   have ew5 : IntKind.i64.wrap (at2 + 5 * ttl + x4) = at2 + 5 * ttl + x4 := w64 (by omega)
   simp -implicitDefEqProofs only [evr, id, seval, ptr, res_one, resRow, net_one, rlEnv, rlOwn, numCs, rlCs, rlBox, evn]
   refine hk _ ?_
   simp only [thenK]
   refine ⟨IntKind.i64.wrap (IntKind.i64.wrap (at2 + IntKind.i64.wrap (5 * ttl)) + x4), ⟨by rw [ew3, ew4, ew5]; omega, by rw [ew3, ew4, ew5]; omega⟩, ?_⟩
   simp -implicitDefEqProofs only [evr, id, seval, ptr, res_one, resRow, net_one, rlEnv, rlOwn, numCs, rlCs, rlBox, evl, evn]
  rintro back ⟨hbk0, hbk1⟩
  simp only [thenK, rlEnv, rlOwn, numCs, rlCs, rlBox]
  (repeat refine Sat.seq ?_)
  (refine Sat.region_k fun k hk => ?_; simp -implicitDefEqProofs only [evr, id, seval, ptr, res_one, resRow, net_one, rlEnv, rlOwn, numCs, rlCs, rlBox, evn])
  refine wcall_plain (nextC cb 5 (by omega) (by omega)) rfl (by rintro _ ⟨x, rfl, _⟩; exact ok_plain rfl) ?_
  rintro r ⟨x5, rfl, hq0, hq1⟩
  simp -implicitDefEqProofs only [evr, id, seval, ptr, res_one, resRow, net_one, rlEnv, rlOwn, numCs, rlCs, rlBox, evn]
  have ew6 : IntKind.i64.wrap (1 + x5) = 1 + x5 := w64 (by omega)
  have ew7 : IntKind.i64.wrap (id2 + (1 + x5)) = id2 + (1 + x5) := w64 (by omega)
  obtain ⟨id3, hid5, hid6, hid7⟩ : ∃ y, IntKind.i64.wrap (id2 + IntKind.i64.wrap (1 + x5)) = y ∧ 0 ≤ y ∧ y ≤ id2 + 5 := ⟨_, rfl, by rw [ew6, ew7]; omega, by rw [ew6, ew7]; omega⟩
  simp only [hid5]
  clear ew6 ew7 hid5
  (refine hk _ ?_; clear hk k; try show Sat _ _ _ _ _)
  (repeat refine Sat.seq ?_)
  (refine Sat.region_k fun k hk => ?_; simp -implicitDefEqProofs only [evr, id, seval, ptr, res_one, resRow, net_one, rlEnv, rlOwn, numCs, rlCs, rlBox, evn]; refine hk _ ?_; clear hk k; try show Sat _ _ _ _ _)
  (repeat refine Sat.seq ?_)
  (refine Sat.region_k fun k hk => ?_; simp -implicitDefEqProofs only [evr, id, seval, ptr, res_one, resRow, net_one, rlEnv, rlOwn, numCs, rlCs, rlBox, evn]; refine hk _ ?_; clear hk k; try show Sat _ _ _ _ _)
  (repeat refine Sat.seq ?_)
  refine Sat.atF (ι := Int) (fun z => ⟨175, (18, .i .u32 z) :: (17, .op 4 b17 0) :: (16, .sl pq.a pq.p.length pq.cap 1 (adRd pq.p)) :: (15, .i .i64 fl) :: (14, .op 3 b14 0) :: rlEnv st cb most k1 at2 id3 bn ra rc xs.length na nc zs.length, rlOwn bn na nc zs ra rc xs m0 m1 (rlBox b14 b17 n (rlCs n.v num at2 n.d n.pr fl ttl (.b false) (.b false) back 0 0 0 0 0))⟩) InA ?_ ?_
  ·refine Sat.cond_b rfl (fun h => ?_) (fun h => ?_)
   ·have h3 : ttl ≤ pq.p.length := by simpa using h
    have e9 : IntKind.i64.wrap (ttl - 1) = ttl - 1 := w64 (by omega)
    (refine Sat.region_k fun k hk => ?_; simp -implicitDefEqProofs only [evr, id, seval, ptr, res_one, resRow, net_one, rlEnv, rlOwn, numCs, rlCs, rlBox, evn])
    simp only [e9]
    refine ⟨by omega, hk _ ?_⟩
    simp only [thenK]
    refine ⟨pq.p.getD (ttl - 1).toNat 0, hpok.2 _ (getD_mem (by omega)), ?_⟩
    simp -implicitDefEqProofs only [evr, id, seval, ptr, res_one, resRow, net_one, rlEnv, rlOwn, numCs, rlCs, rlBox, evl, evn]
    rfl
   ·refine Sat.skip ?_
    simp only [thenK]
    refine ⟨n.last, hnk.last, ?_⟩
    simp -implicitDefEqProofs only [evr, id, seval, ptr, res_one, resRow, net_one, rlEnv, rlOwn, numCs, rlCs, rlBox, evl, evn]
  intro fr hfr
  simp only [thenK, rlEnv, rlOwn, numCs, rlCs, rlBox]
  (repeat refine Sat.seq ?_)
  refine Sat.atF (ι := Bool) (fun z => ⟨175, (142, .b z) :: (18, .i .u32 fr) :: (17, .op 4 b17 0) :: (16, .sl pq.a pq.p.length pq.cap 1 (adRd pq.p)) :: (15, .i .i64 fl) :: (14, .op 3 b14 0) :: rlEnv st cb most k1 at2 id3 bn ra rc xs.length na nc zs.length, rlOwn bn na nc zs ra rc xs m0 m1 (rlBox b14 b17 n (rlCs n.v num at2 n.d n.pr fl ttl (.b false) (.b false) back 0 0 0 0 0))⟩) (fun z => z = true → fr ≠ 0) ?_ ?_
  ·(refine Sat.region_k fun k hk => ?_; simp -implicitDefEqProofs only [evr, id, seval, ptr, res_one, resRow, net_one, rlEnv, rlOwn, numCs, rlCs, rlBox, evn])
   refine ⟨fun g1 => ?_, fun g1 => hk _ ?_⟩
   ·refine wcall_plain (boolC cb 5 (by decide) (by decide)) rfl plain_bool ?_
    rintro r ⟨q5, rfl⟩
    simp -implicitDefEqProofs only [evr, id, seval, ptr, res_one, resRow, net_one, rlEnv, rlOwn, numCs, rlCs, rlBox, evn]
    refine hk _ ?_
    simp only [thenK]
    refine ⟨!q5, fun _ => (by simpa using g1), ?_⟩
    simp -implicitDefEqProofs only [evr, id, seval, ptr, res_one, resRow, net_one, rlEnv, rlOwn, numCs, rlCs, rlBox, evl, evn]
   ·simp only [thenK]
    refine ⟨false, fun h9 => (by cases h9), ?_⟩
    simp -implicitDefEqProofs only [evr, id, seval, ptr, res_one, resRow, net_one, rlEnv, rlOwn, numCs, rlCs, rlBox, evl, evn]
  intro ba hba
  simp only [thenK, rlEnv, rlOwn, numCs, rlCs, rlBox]
  (repeat refine Sat.seq ?_)
  refine Sat.atF (ι := SV × SV × Int × Int × Int × Int × Int) (fun z => ⟨175, (17, .op 4 b17 0) :: (16, .sl pq.a pq.p.length pq.cap 1 (adRd pq.p)) :: (15, .i .i64 fl) :: (14, .op 3 b14 0) :: rlEnv st cb most k1 at2 id3 bn ra rc xs.length na nc zs.length, rlOwn bn na nc zs ra rc xs m0 m1 (rlBox b14 b17 n (rlCs n.v num at2 n.d n.pr fl ttl (z.1) (z.2.1) back z.2.2.1 z.2.2.2.1 z.2.2.2.2.1 z.2.2.2.2.2.1 z.2.2.2.2.2.2))⟩) (fun z => ∃ b8 b9, sim z.1 (.b b8) ∧ sim z.2.1 (.b b9) ∧ oneS z.1 = true ∧ oneS z.2.1 = true ∧ InA z.2.2.1 ∧ AnsOk b8 b9 z.2.2.1 z.2.2.2.1 z.2.2.2.2.1 z.2.2.2.2.2.1 z.2.2.2.2.2.2) ?_ ?_
  ·refine Sat.cond_b rfl (fun h => ?_) (fun h => ?_)
   ·have hba1 : ba = true := h
    (repeat refine Sat.seq ?_)
    (refine Sat.region_k fun k hk => ?_; simp -implicitDefEqProofs only [evr, id, seval, ptr, res_one, resRow, net_one, rlEnv, rlOwn, numCs, rlCs, rlBox, evn])
    refine wcall_plain (boolC cb 30 (by decide) (by decide)) rfl plain_bool ?_
    rintro r ⟨q30, rfl⟩
    simp -implicitDefEqProofs only [evr, id, seval, ptr, res_one, resRow, net_one, rlEnv, rlOwn, numCs, rlCs, rlBox, evn]
    (refine hk _ ?_; clear hk k; try show Sat _ _ _ _ _)
    (repeat refine Sat.seq ?_)
    (refine Sat.region_k fun k hk => ?_; simp -implicitDefEqProofs only [evr, id, reduceCtorEq, reduceIte, Nat.reduceMul, Nat.reduceAdd, Nat.reduceLT, Nat.reduceLeDiff, Nat.reduceEqDiff, Int.reduceLT, Int.reduceBEq, Int.reduceBNe, Nat.reduceBEq, ptr, res_one, Int.reduceToNat, resRow, net_one, rlEnv, rlOwn, numCs, rlCs, rlBox, evn])
    obtain ⟨id4, hid8, hid9, hid10⟩ : ∃ y, id3.tmod 65536 = y ∧ 0 ≤ y ∧ y ≤ 65535 := ⟨_, rfl, Int.tmod_nonneg _ hid6, Int.le_of_lt_add_one (Int.tmod_lt_of_pos _ (by decide))⟩
    simp only [hid8]
    clear hid8
    refine ⟨by decide, ?_⟩
    (refine hk _ ?_; clear hk k; try show Sat _ _ _ _ _)
    (repeat refine Sat.seq ?_)
    (refine Sat.region_k fun k hk => ?_; simp -implicitDefEqProofs only [evr, id, seval, ptr, res_one, resRow, net_one, rlEnv, rlOwn, numCs, rlCs, rlBox, evn]; refine hk _ ?_; clear hk k; try show Sat _ _ _ _ _)
    (repeat refine Sat.seq ?_)
    refine Sat.atF (ι := Int) (fun z => ⟨175, (17, .op 4 b17 0) :: (16, .sl pq.a pq.p.length pq.cap 1 (adRd pq.p)) :: (15, .i .i64 fl) :: (14, .op 3 b14 0) :: rlEnv st cb most k1 at2 id3 bn ra rc xs.length na nc zs.length, rlOwn bn na nc zs ra rc xs m0 m1 (rlBox b14 b17 n (rlCs n.v num at2 n.d n.pr fl ttl (.tt) (.b q30) back fr z 60 id4 1))⟩) (fun z => 1 ≤ z ∧ z ≤ 5) ?_ ?_
    ·refine Sat.cond_b rfl (fun h => ?_) (fun h => ?_)
     ·(refine Sat.region_k fun k hk => ?_; simp -implicitDefEqProofs only [evr, id, seval, ptr, res_one, resRow, net_one, rlEnv, rlOwn, numCs, rlCs, rlBox, evn])
      intro bp
      refine wcall_plain (pickI cb bp [3, 3, 2] (fun x => 1 ≤ x ∧ x ≤ 5) (by decide) (by decide) (by decide)) (by simp -implicitDefEqProofs only [evr, id, seval, ptr, res_one, resRow, net_one, rlEnv, rlOwn, numCs, rlCs, rlBox, evn]) plain_pick ?_
      rintro r ⟨x, rfl, hxp⟩
      simp -implicitDefEqProofs only [evr, id, seval, ptr, res_one, resRow, net_one, rlEnv, rlOwn, numCs, rlCs, rlBox, evn]
      refine hk _ ?_
      simp only [thenK]
      refine ⟨x, hxp, ?_⟩
      simp -implicitDefEqProofs only [evr, id, seval, ptr, res_one, resRow, net_one, rlEnv, rlOwn, numCs, rlCs, rlBox, evl, evn]
     ·refine Sat.skip ?_
      simp only [thenK]
      refine ⟨1, ⟨by decide, by decide⟩, ?_⟩
      simp -implicitDefEqProofs only [evr, id, seval, ptr, res_one, resRow, net_one, rlEnv, rlOwn, numCs, rlCs, rlBox, evl, evn]
    rintro kind hkd
    simp only [thenK, rlEnv, rlOwn, numCs, rlCs, rlBox]
    (repeat refine Sat.seq ?_)
    (refine Sat.region_k fun k hk => ?_; simp -implicitDefEqProofs only [evr, id, seval, ptr, res_one, resRow, net_one, rlEnv, rlOwn, numCs, rlCs, rlBox, evn])
    refine wcall_plain (boolC cb 5 (by decide) (by decide)) rfl plain_bool ?_
    rintro r ⟨q6, rfl⟩
    simp -implicitDefEqProofs only [evr, id, seval, ptr, res_one, resRow, net_one, rlEnv, rlOwn, numCs, rlCs, rlBox, evn]
    (refine hk _ ?_; clear hk k; try show Sat _ _ _ _ _)
    refine Sat.cond_b rfl (fun h => ?_) (fun h => ?_)
    ·(refine Sat.region_k fun k hk => ?_; simp -implicitDefEqProofs only [evr, id, seval, ptr, res_one, resRow, net_one, rlEnv, rlOwn, numCs, rlCs, rlBox, evn])
     refine wcall_plain (nextC cb 65536 (by omega) (by omega)) rfl (by rintro _ ⟨x, rfl, _⟩; exact ok_plain rfl) ?_
     rintro r ⟨x6, rfl, hg0, hg1⟩
     simp -implicitDefEqProofs only [evr, id, seval, ptr, res_one, resRow, net_one, rlEnv, rlOwn, numCs, rlCs, rlBox, evn]
     refine hk _ ?_
     simp only [thenK]
     refine ⟨(.tt, .b q30, fr, kind, 60, x6, 1), ⟨true, q30, sim_tt, sim_refl _, rfl, rfl, hfr, .inl ⟨rfl, hba hba1, hkd, rfl, ⟨hg0, by show x6 ≤ 65535; omega⟩, rfl⟩⟩, ?_⟩
     simp -implicitDefEqProofs only [evr, id, seval, ptr, res_one, resRow, net_one, rlEnv, rlOwn, numCs, rlCs, rlBox, evl, evn]
    ·refine Sat.skip ?_
     simp only [thenK]
     refine ⟨(.tt, .b q30, fr, kind, 60, id4, 1), ⟨true, q30, sim_tt, sim_refl _, rfl, rfl, hfr, .inl ⟨rfl, hba hba1, hkd, rfl, ⟨hid9, hid10⟩, rfl⟩⟩, ?_⟩
     simp -implicitDefEqProofs only [evr, id, seval, ptr, res_one, resRow, net_one, rlEnv, rlOwn, numCs, rlCs, rlBox, evl, evn]
   ·refine Sat.skip ?_
    simp only [thenK]
    refine ⟨(.b false, .b false, 0, 0, 0, 0, 0), ⟨false, false, sim_refl _, sim_refl _, rfl, rfl, ⟨by decide, by decide⟩, .inr ⟨rfl, rfl, rfl, rfl, rfl, rfl, rfl⟩⟩, ?_⟩
    simp -implicitDefEqProofs only [evr, id, seval, ptr, res_one, resRow, net_one, rlEnv, rlOwn, numCs, rlCs, rlBox, evl, evn]
  rintro ⟨s8, s9, fr2, kind, left, idv, quo⟩ ⟨b8, b9, hs8, hs9, ho8, ho9, hfr2, hans⟩
  simp only [thenK, rlEnv, rlOwn, numCs, rlCs, rlBox] at hs8 hs9 ho8 ho9 hfr2 hans ⊢
  (repeat refine Sat.seq ?_)
  (refine Sat.region_k fun k hk => ?_; simp -implicitDefEqProofs only [evr, id, seval, ptr, res_one, resRow, net_one, rlEnv, rlOwn, numCs, rlCs, rlBox, evn]; refine hk _ ?_; clear hk k; try show Sat _ _ _ _ _)
  (repeat refine Sat.seq ?_)
  (refine Sat.region_k fun k hk => ?_; simp -implicitDefEqProofs only [evr, id, seval, ptr, res_one, resRow, net_one, rlEnv, rlOwn, numCs, rlCs, rlBox, evn])
  simp -implicitDefEqProofs only [evr, id, seval, ptr, res_one, resRow, net_one, rlEnv, rlOwn, numCs, rlCs, rlBox, ho8, ho9, evn]
  intro b18
  refine ⟨⟨by unfold maxLen; omega, by omega⟩, fun a2 cap2 => ?_⟩
  (refine hk _ ?_; clear hk k; try show Sat _ _ _ _ _)
  obtain ⟨r, hr⟩ : ∃ r : Res, r = ⟨n.v, 0, num, at2, n.d, n.pr, fl, ttl, b8, b9, back, fr2, kind, 0, left, idv, quo⟩ := ⟨_, rfl⟩
  refine Sat.reread 2 (resRd (xs ++ [r]).toArray) rfl ?_ ?_
  ·refine res_appS ?_
   subst hr
   simp only [Res.cs, simA]
   refine ⟨?_, ?_, ?_, ?_, ?_, ?_, ?_, ?_, ?_, ?_, ?_, ?_, ?_, ?_, ?_, ?_, ?_, trivial⟩ <;> first | exact sim_refl _ | exact hs8 | exact hs9
  simp -implicitDefEqProofs only [evr, id, seval, ptr, res_one, resRow, net_one, rlEnv, rlOwn, numCs, rlCs, rlBox, evn]
  refine Sat.region_k fun k hk => ?_
  simp -implicitDefEqProofs only [evr, id, seval, ptr, res_one, resRow, net_one, rlEnv, rlOwn, numCs, rlCs, rlBox, e2, evn]
  refine hk _ ?_
  simp only [thenK, blockK]
  have hrg : RgR r := by subst hr; exact ⟨w64_inA hnk.d, w64_inA hfr2⟩
  have hnum0 : 0 ≤ num ∧ num < 1000 := by rcases hnew with ⟨g1, g2, g3, g4⟩ | ⟨g1, g2, g3, g4⟩ <;> omega
  have hnv := hnk.v
  have hval : validR r = true := by
   subst hr
   exact rlt_valid hnk.v hnum0 ⟨by omega, by omega, by omega⟩ hnk.d0 hnk.pr ⟨by omega, by omega⟩ ⟨by omega, by omega⟩ hans
  have hI2 : RltI (xs ++ [r]) m0 m1 := by
   rcases hnew with ⟨g1, g2, g3, g4⟩ | ⟨g1, g2, g3, g4⟩
   ·rw [g3, g4]; exact hI.snoc0 hrg hval (by subst hr; exact g1) (by subst hr; exact g2)
   ·rw [g3, g4]; exact hI.snoc1 hrg hval (by subst hr; exact g1) (by subst hr; exact g2)
  refine ⟨⟨k1 - 1, back, id3, na, nc, zs, a2, cap2, xs ++ [r], m0, m1⟩, ⟨by simp; omega, hnl, hzok, hI2, by simp; omega, by simp; omega, ⟨by simp only; omega, by simp only [List.length_append, List.length_singleton]; omega⟩, ⟨by simp only; omega, by simp only [List.length_append, List.length_singleton]; omega⟩⟩, by simp only; omega, ?_⟩
  simp only [List.length_append, List.length_singleton]
  simp -implicitDefEqProofs only [evr, id, seval, ptr, res_one, resRow, net_one, rlEnv, rlOwn, numCs, rlCs, rlBox, evl, evn]
 ·have h0 : k1 = 0 := by simp only [decide_eq_false_iff_not] at h; omega
  refine Sat.exit ?_
  simp only [thenK, blockK, reduceIte]
  (repeat refine Sat.seq ?_)
  (refine Sat.region_k fun k hk => ?_; simp -implicitDefEqProofs only [evr, id, seval, ptr, res_one, resRow, net_one, rlEnv, rlOwn, numCs, rlCs, rlBox, evn]; refine hk _ ?_; clear hk k; try show Sat _ _ _ _ _)
  refine Sat.ret ?_
  simp only [Tryz.results6, evr, id, reduceCtorEq, reduceIte, Nat.reduceMul, Nat.reduceAdd, Nat.reduceLT, Nat.reduceLeDiff, Nat.reduceEqDiff, Int.reduceLT, Int.reduceBEq, Int.reduceBNe, Nat.reduceBEq, ptr, res_one, List.append_nil, Int.toNat_zero, Nat.sub_self, Int.reduceToNat, resRow, net_one, rlEnv, rlOwn, numCs, rlCs, rlBox, retN, retNK, newRow]
  exact ⟨⟨rfl, rfl, rfl⟩, ra, rc, xs, n0, n1, hI, by omega, rfl⟩
end Go.Proofs.YtepbdjpcoleegaaGreat


/- Results as parameters of a law: what they read as. -/
set_option maxRecDepth 100000
namespace Go.Proofs.YtepbdjpcoleegaaGreat
open Go.Sort Eng Go.RowKit Go.WideShapes Go.ChangeShapes
theorem sh_fields {P : Program} {D : Nat} {t : TypeId} {ps : List (Nat × TypeId)} {l : List SV} (hu : P.underlying t = some (.struct (P.fieldsOf t))) (hm : (P.fieldsOf t).toList.map (fun f => (f.offset, f.type)) = ps) (h : Sh P (D + 1) t l) :
  l.length = P.cellsOf t ∧ ∀ p ∈ ps, Sh P D p.2 ((l.drop p.1).take (P.cellsOf p.2)) := by
 obtain ⟨h1, h2⟩ := sh_struct hu h
 refine ⟨h1, fun p hp => ?_⟩
 rw [← hm] at hp
 obtain ⟨f, hf, rfl⟩ := List.mem_map.1 hp
 exact h2 f hf
theorem ans_of_sh {D : Nat} {l : List SV} (h : Sh Tryz.prog (D + 2) 49 l) : ∃ a b c d e f : Int, l = [.i .u32 a, .i .i64 b, .i .i64 c, .i .i64 d, .i .i64 e, .i .i64 f] ∧ u32 a := by
 obtain ⟨h1, h2⟩ := sh_fields (ps := [(0, 25), (1, 3), (2, 3), (3, 3), (4, 3), (5, 3)]) (by kernel_rfl) (by kernel_rfl) h
 have hc : Tryz.prog.cellsOf 49 = 6 := by kernel_rfl
 have c1 : Tryz.prog.cellsOf 3 = 1 := by kernel_rfl
 have c2 : Tryz.prog.cellsOf 25 = 1 := by kernel_rfl
 rw [hc] at h1
 match l, h1 with
 | [x0, x1, x2, x3, x4, x5], _ =>
  have g0 := h2 (0, 25) (by simp)
  have g1 := h2 (1, 3) (by simp)
  have g2 := h2 (2, 3) (by simp)
  have g3 := h2 (3, 3) (by simp)
  have g4 := h2 (4, 3) (by simp)
  have g5 := h2 (5, 3) (by simp)
  simp only [c1, c2] at g0 g1 g2 g3 g4 g5
  obtain ⟨n0, e0, w0⟩ := sh_int (k := .u32) (by kernel_rfl) g0
  obtain ⟨n1, e1, w1⟩ := sh_int (k := .i64) (by kernel_rfl) g1
  obtain ⟨n2, e2, w2⟩ := sh_int (k := .i64) (by kernel_rfl) g2
  obtain ⟨n3, e3, w3⟩ := sh_int (k := .i64) (by kernel_rfl) g3
  obtain ⟨n4, e4, w4⟩ := sh_int (k := .i64) (by kernel_rfl) g4
  obtain ⟨n5, e5, w5⟩ := sh_int (k := .i64) (by kernel_rfl) g5
  simp at e0 e1 e2 e3 e4 e5
  subst e0 e1 e2 e3 e4 e5
  exact ⟨n0, n1, n2, n3, n4, n5, rfl, by have := bounds_u32 w0; unfold u32; omega⟩
theorem res_of_sh {D : Nat} {l : List SV} (h : Sh Tryz.prog (D + 3) 51 l) : ∃ s : Res, l = s.cs ∧ wfR s := by
 obtain ⟨h1, h2⟩ := sh_fields (ps := [(0, 3), (1, 3), (2, 3), (3, 3), (4, 25), (5, 3), (6, 3), (7, 3), (8, 4), (9, 4), (10, 3), (11, 49)]) (by kernel_rfl) (by kernel_rfl) h
 have hc : Tryz.prog.cellsOf 51 = 17 := by kernel_rfl
 have c1 : Tryz.prog.cellsOf 3 = 1 := by kernel_rfl
 have c2 : Tryz.prog.cellsOf 25 = 1 := by kernel_rfl
 have c3 : Tryz.prog.cellsOf 4 = 1 := by kernel_rfl
 have c4 : Tryz.prog.cellsOf 49 = 6 := by kernel_rfl
 rw [hc] at h1
 match l, h1 with
 | [x0, x1, x2, x3, x4, x5, x6, x7, x8, x9, x10, x11, x12, x13, x14, x15, x16], _ =>
  have g0 := h2 (0, 3) (by simp)
  have g1 := h2 (1, 3) (by simp)
  have g2 := h2 (2, 3) (by simp)
  have g3 := h2 (3, 3) (by simp)
  have g4 := h2 (4, 25) (by simp)
  have g5 := h2 (5, 3) (by simp)
  have g6 := h2 (6, 3) (by simp)
  have g7 := h2 (7, 3) (by simp)
  have g8 := h2 (8, 4) (by simp)
  have g9 := h2 (9, 4) (by simp)
  have g10 := h2 (10, 3) (by simp)
  have g11 := h2 (11, 49) (by simp)
  simp only [c1, c2, c3, c4] at g0 g1 g2 g3 g4 g5 g6 g7 g8 g9 g10 g11
  obtain ⟨n0, e0, w0⟩ := sh_int (k := .i64) (by kernel_rfl) g0
  obtain ⟨n1, e1, w1⟩ := sh_int (k := .i64) (by kernel_rfl) g1
  obtain ⟨n2, e2, w2⟩ := sh_int (k := .i64) (by kernel_rfl) g2
  obtain ⟨n3, e3, w3⟩ := sh_int (k := .i64) (by kernel_rfl) g3
  obtain ⟨n4, e4, w4⟩ := sh_int (k := .u32) (by kernel_rfl) g4
  obtain ⟨n5, e5, w5⟩ := sh_int (k := .i64) (by kernel_rfl) g5
  obtain ⟨n6, e6, w6⟩ := sh_int (k := .i64) (by kernel_rfl) g6
  obtain ⟨n7, e7, w7⟩ := sh_int (k := .i64) (by kernel_rfl) g7
  obtain ⟨n8, e8⟩ := sh_bool (by kernel_rfl) g8
  obtain ⟨n9, e9⟩ := sh_bool (by kernel_rfl) g9
  obtain ⟨n10, e10, w10⟩ := sh_int (k := .i64) (by kernel_rfl) g10
  obtain ⟨a, b, c, d, e, f, e11, w11⟩ := ans_of_sh g11
  simp at e0 e1 e2 e3 e4 e5 e6 e7 e8 e9 e10 e11
  obtain ⟨q1, q2, q3, q4, q5, q6⟩ := e11
  subst e0 e1 e2 e3 e4 e5 e6 e7 e8 e9 e10 q1 q2 q3 q4 q5 q6
  exact ⟨⟨n0, n1, n2, n3, n4, n5, n6, n7, n8, n9, n10, a, b, c, d, e, f⟩, rfl, by have := bounds_u32 w4; show u32 n4; unfold u32; omega, w11⟩
theorem res_rd {n : Nat} {rd : Nat → Nat → SV} (xs : List Res) (h : rdEq xs.length 17 rd fun i j => (Res.cs (xs.getD i default)).getD j default) : rdEq xs.length 17 rd (resRd xs.toArray) := fun i j hi hj => by
 rw [h i j hi hj]
 unfold resRd
 rw [List.getElem!_toArray]
 simp [List.getD, getElem!_def, hi]
end Go.Proofs.YtepbdjpcoleegaaGreat


/- CommonShows: what Show, Pairs, Holds, Compare, ValidEvidence and CompareID return for any results, evidence and identities. The law holds of every input. -/
namespace Go.Proofs.YtepbdjpcoleegaaGreat
open Go.Sort Eng
structure YP where
 a : Option Addr
 c : Nat
 l : List Res
instance : Inhabited YP := ⟨⟨none, 0, []⟩⟩
def YP.sv (e : YP) : SV := .sl e.a e.l.length e.c 17 (resRd e.l.toArray)
structure YOk (e : YP) : Prop where
 rg : ∀ r ∈ e.l, RgR r
 len : e.l.length ≤ 30
def PrRes (xs : List Res) (es : List Evd) : Prop := (xs.any (fun x => !validR x) = true ∧ es = []) ∨ (xs.any (fun x => !validR x) = false ∧ PairsOf xs es)
def prErr (xs : List Res) : Int := if xs.any (fun x => !validR x) = true then 1 else 0
theorem pr_post {xs : List Res} {r : SV} (h : (xs.any (fun x => !validR x) = true ∧ ∃ rd, r = tupL [.sl none 0 0 0 rd, .i .i64 1]) ∨ (xs.any (fun x => !validR x) = false ∧ ∃ a cap es, PairsOf xs es ∧ r = tupL [.sl a es.length cap 4 (evRd es), .i .i64 0])) :
  ∃ r', sim r r' ∧ ∃ a cap es, PrRes xs es ∧ r' = tupL [.sl a es.length cap 4 (evRd es), .i .i64 (prErr xs)] := by
 rcases h with ⟨h, rd, rfl⟩ | ⟨h, a, cap, es, hp, rfl⟩
 ·exact ⟨_, sim_tup2 (sim_nil 0 4 rd (evRd [])) (sim_refl _), none, 0, [], .inl ⟨h, rfl⟩, by unfold prErr; rw [if_pos h]; rfl⟩
 ·exact ⟨_, sim_refl _, a, cap, es, .inr ⟨h, hp⟩, by unfold prErr; rw [if_neg (by rw [h]; decide)]⟩
theorem pairsC2 (F : Frm) (ad : Option Addr) (cap : Nat) (xs : List Res) (hl : xs.length ≤ 512) (hin : ∀ r ∈ xs, RgR r) :
  Contract F Tryz.prog 11 [.sl ad xs.length cap 17 (resRd xs.toArray)] (fun r => ∃ a cap es, PrRes xs es ∧ r = tupL [.sl a es.length cap 4 (evRd es), .i .i64 (prErr xs)]) :=
 (pairsC F ad cap xs hl hin).same fun r h => pr_post h
theorem refPairsC2 (F : Frm) (ad : Option Addr) (cap : Nat) (xs : List Res) (hl : xs.length ≤ 512) (hin : ∀ r ∈ xs, RgR r) :
  Contract F Tryz.prog 12 [.sl ad xs.length cap 17 (resRd xs.toArray)] (fun r => ∃ a cap es, PrRes xs es ∧ r = tupL [.sl a es.length cap 4 (evRd es), .i .i64 (prErr xs)]) :=
 (refPairsC F ad cap xs hl hin).same fun r h => pr_post h
theorem pairs_in {xs : List Res} {es : List Evd} (h : PairsOf xs es) (hr : ∀ r ∈ xs, RgR r) : ∀ e ∈ es, EvIn e := fun e he => by
 obtain ⟨r, hx, h1⟩ := (h.prs e.pr).1 (List.mem_map.2 ⟨e, he, rfl⟩)
 obtain ⟨g1, g2⟩ := hr r hx
 unfold showR at h1
 split at h1
 ·have h2 := Option.some.inj h1
  have ha : e.a = min r.dst r.from_ := (congrArg Par.a h2).symm
  have hb : e.b = max r.dst r.from_ := (congrArg Par.b h2).symm
  have g3 : IntKind.i64.wrap r.dst = r.dst := g1
  have g4 : IntKind.i64.wrap r.from_ = r.from_ := g2
  refine ⟨?_, ?_, by have := (h.each e he).2.2.2; omega⟩
  ·rw [ha]; rcases Int.le_total r.dst r.from_ with h5 | h5
   ·rw [Int.min_eq_left h5]; exact g3
   ·rw [Int.min_eq_right h5]; exact g4
  ·rw [hb]; rcases Int.le_total r.dst r.from_ with h5 | h5
   ·rw [Int.max_eq_right h5]; exact g4
   ·rw [Int.max_eq_left h5]; exact g3
 ·cases h1
theorem pr_in {xs : List Res} {es : List Evd} (h : PrRes xs es) (hr : ∀ r ∈ xs, RgR r) : (∀ e ∈ es, EvIn e) ∧ es.length ≤ xs.length := by
 rcases h with ⟨_, rfl⟩ | ⟨_, h⟩
 ·exact ⟨fun e he => (by cases he), Nat.zero_le _⟩
 ·exact ⟨pairs_in h hr, h.len⟩
theorem pr_same {xs : List Res} {es fs : List Evd} (h : PrRes xs es) (g : PrRes xs fs) : es.map Evd.say = fs.map Evd.say := by
 rcases h with ⟨h1, rfl⟩ | ⟨h1, h2⟩ <;> rcases g with ⟨g1, rfl⟩ | ⟨g1, g2⟩
 ·rfl
 ·rw [h1] at g1; cases g1
 ·rw [h1] at g1; cases g1
 ·exact pairs_same h2 g2 fun r => Iff.rfl
theorem inA_ev {e : Evd} (ha : InA e.a) (hb : InA e.b) (hl : e.ids.length ≤ 1000000000) : EvIn e := ⟨w64 (by unfold InA at ha; omega), w64 (by unfold InA at hb; omega), hl⟩
theorem all_rd {e f d : Evd} {qs ls : List Evd} {p r : Nat} (hp : p < 3 + qs.length + ls.length) (hr : r < 4) :
  sim (rdCat (3 + qs.length) (rdCat 3 (rdL [SV.i .i64 e.kind, .i .u32 e.a, .i .u32 e.b, .sl e.ad e.ids.length e.cap 3 (idnRd e.ids.toArray), .i .i64 f.kind, .i .u32 f.a, .i .u32 f.b, .sl f.ad f.ids.length f.cap 3 (idnRd f.ids.toArray), .i .i64 d.kind, .i .u32 d.a, .i .u32 d.b, .sl d.ad d.ids.length d.cap 3 (idnRd d.ids.toArray)] 4) (evRd qs)) (evRd ls) p r)
   (evRd ([e, f, d] ++ qs ++ ls) p r) := by
 have key : ∀ g, ([e, f, d] ++ qs ++ ls).getD p default = g → evRd ([e, f, d] ++ qs ++ ls) p r = (Evd.cs g).getD r default := fun g h => by unfold evRd; rw [h]
 unfold rdCat
 by_cases h1 : p < 3 + qs.length
 ·rw [if_pos h1]
  by_cases h2 : p < 3
  ·rw [if_pos h2]
   rcases (show p = 0 ∨ p = 1 ∨ p = 2 by omega) with rfl | rfl | rfl <;> rcases (show r = 0 ∨ r = 1 ∨ r = 2 ∨ r = 3 by omega) with rfl | rfl | rfl | rfl <;> exact sim_refl _
  ·rw [if_neg h2, key (qs.getD (p - 3) default) (by
    rw [List.getD_eq_getElem?_getD, List.getElem?_append_left (by simp; omega), List.getElem?_append_right (by simp; omega), List.getD_eq_getElem?_getD]
    rfl)]
   exact sim_refl _
 ·rw [if_neg h1, key (ls.getD (p - (3 + qs.length)) default) (by
   rw [List.getD_eq_getElem?_getD, List.getElem?_append_right (by simp; omega), List.getD_eq_getElem?_getD]
   congr 3
   simp
   omega)]
  exact sim_refl _
set_option maxHeartbeats 4000000 in
set_option maxRecDepth 100000 in
theorem showsC (a : Option Addr) (cap : Nat) (z : List Int) (hz : ∀ n ∈ z, (Lit.int .u8 n).wf = true) (ra : Option Addr) (rc : Nat) (raw : List Res) (hraw : ∀ r ∈ raw, RgR r) (hrl : raw.length ≤ maxLen)
  (e f : Evd) (he : InA e.a ∧ InA e.b) (hf : InA f.a ∧ InA f.b) (hel : e.ids.length ≤ maxLen) (hfl : f.ids.length ≤ maxLen) (i1 j1 : Idn) :
  Contract Frm.nil Tryz.prog 3 [slB a cap z, .sl ra raw.length rc 17 (resRd raw.toArray), evAg e, evAg f, idnAg i1, idnAg j1] (fun r => r = .b true) := by
 have hb : isBytes (slB a cap z) := ⟨a, z.length, cap, _, rfl, fun i hi => ⟨z.getD i 0, by have := bounds_u8 (hz _ (getD_mem (d := 0) hi)); omega, by have := bounds_u8 (hz _ (getD_mem (d := 0) hi)); omega, rfl⟩⟩
 refine contract_of Tryz.func3 rfl (by kernel_rfl) ?_
 simp only [Tryz.ntmps3, argEnv, evAg, idnAg, Evd.cs, Idn.cs]
 (repeat refine Sat.seq ?_)
 (refine Sat.region_k fun k hk => ?_; simp -implicitDefEqProofs only [evr, id, reduceCtorEq, reduceIte, Nat.reduceMul, Nat.reduceAdd, Nat.reduceLT, Nat.reduceLeDiff, Nat.reduceEqDiff, Int.reduceLT, Int.reduceBEq, Int.reduceBNe, Nat.reduceBEq, ptr, Bool.not_true, Bool.not_false, res_one, res_ro, par_one, idn_one, Int.reduceToNat, resRow, bne_self_eq_false, rExtract_tup, par_eq, ev_0, ev_1, ev_2, ev_3, evn])
 intro b8 b9 b10 b11
 (refine hk _ ?_; clear hk k; try show Sat _ _ _ _ _)
 (repeat refine Sat.seq ?_)
 refine Sat.joinK (ι := Bool) (fun q => ⟨212, [(50, .b q), (0, slB a cap z), (1, .sl ra raw.length rc 17 (resRd raw.toArray)), (8, .op 0 b8 0), (9, .op 1 b9 0), (10, .op 2 b10 0), (11, .op 3 b11 0)],
   [.box b8 28 (Evd.cs e), .box b9 28 (Evd.cs f), .box b10 30 (Idn.cs i1), .box b11 30 (Idn.cs j1)]⟩)
  (fun q => q = false → raw.length ≤ 12 ∧ e.ids.length ≤ 12 ∧ f.ids.length ≤ 12) (fun hrest => ?_) ?_
 ·(refine Sat.region_k fun k hk => ?_; simp -implicitDefEqProofs only [evr, id, reduceCtorEq, reduceIte, Nat.reduceMul, Nat.reduceAdd, Nat.reduceLT, Nat.reduceLeDiff, Nat.reduceEqDiff, Int.reduceLT, Int.reduceBEq, Int.reduceBNe, Nat.reduceBEq, ptr, Bool.not_true, Bool.not_false, res_one, res_ro, par_one, idn_one, Int.reduceToNat, resRow, bne_self_eq_false, rExtract_tup, par_eq, ev_0, ev_1, ev_2, ev_3, evn])
  refine wcall_plain (awakeC Frm.nil) rfl (by rintro _ rfl; exact ok_plain rfl) ?_
  rintro r rfl
  simp -implicitDefEqProofs only [evr, id, reduceCtorEq, reduceIte, Nat.reduceMul, Nat.reduceAdd, Nat.reduceLT, Nat.reduceLeDiff, Nat.reduceEqDiff, Int.reduceLT, Int.reduceBEq, Int.reduceBNe, Nat.reduceBEq, ptr, Bool.not_true, Bool.not_false, res_one, res_ro, par_one, idn_one, Int.reduceToNat, resRow, bne_self_eq_false, rExtract_tup, par_eq, ev_0, ev_1, ev_2, ev_3, evn]
  refine ⟨fun g1 => ?_, fun g1 => ⟨fun g2 => ?_, fun g2 => ?_⟩⟩
  ·refine hk _ ?_
   simp only [thenK]
   refine (hrest true (fun h => by cases h)).le ?_
   simp only [Evd.cs, Idn.cs]
   simp -implicitDefEqProofs only [evr, id, reduceCtorEq, reduceIte, Nat.reduceMul, Nat.reduceAdd, Nat.reduceLT, Nat.reduceLeDiff, Nat.reduceEqDiff, Int.reduceLT, Int.reduceBEq, Int.reduceBNe, Nat.reduceBEq, ptr, Bool.not_true, Bool.not_false, res_one, res_ro, par_one, idn_one, Int.reduceToNat, resRow, bne_self_eq_false, rExtract_tup, par_eq, ev_0, ev_1, ev_2, ev_3, evl, evn]
  ·refine hk _ ?_
   simp only [thenK]
   refine (hrest true (fun h => by cases h)).le ?_
   simp only [Evd.cs, Idn.cs]
   simp -implicitDefEqProofs only [evr, id, reduceCtorEq, reduceIte, Nat.reduceMul, Nat.reduceAdd, Nat.reduceLT, Nat.reduceLeDiff, Nat.reduceEqDiff, Int.reduceLT, Int.reduceBEq, Int.reduceBNe, Nat.reduceBEq, ptr, Bool.not_true, Bool.not_false, res_one, res_ro, par_one, idn_one, Int.reduceToNat, resRow, bne_self_eq_false, rExtract_tup, par_eq, ev_0, ev_1, ev_2, ev_3, evl, evn]
  ·refine hk _ ?_
   simp only [thenK]
   refine (hrest (decide ((12 : Int) < (f.ids.length : Int))) (fun h => by have h9 := of_decide_eq_false h; exact ⟨by omega, by omega, by omega⟩)).le ?_
   simp only [Evd.cs, Idn.cs]
   simp -implicitDefEqProofs only [evr, id, reduceCtorEq, reduceIte, Nat.reduceMul, Nat.reduceAdd, Nat.reduceLT, Nat.reduceLeDiff, Nat.reduceEqDiff, Int.reduceLT, Int.reduceBEq, Int.reduceBNe, Nat.reduceBEq, ptr, Bool.not_true, Bool.not_false, res_one, res_ro, par_one, idn_one, Int.reduceToNat, resRow, bne_self_eq_false, rExtract_tup, par_eq, ev_0, ev_1, ev_2, ev_3, evl, evn]
 rintro q hq
 simp only [Evd.cs, Idn.cs]
 (repeat refine Sat.seq ?_)
 refine Sat.cond_b rfl (fun h => ?_) (fun h => ?_)
 ·(repeat refine Sat.seq ?_)
  (refine Sat.region_k fun k hk => ?_; simp -implicitDefEqProofs only [evr, id, reduceCtorEq, reduceIte, Nat.reduceMul, Nat.reduceAdd, Nat.reduceLT, Nat.reduceLeDiff, Nat.reduceEqDiff, Int.reduceLT, Int.reduceBEq, Int.reduceBNe, Nat.reduceBEq, ptr, Bool.not_true, Bool.not_false, res_one, res_ro, par_one, idn_one, Int.reduceToNat, resRow, bne_self_eq_false, rExtract_tup, par_eq, ev_0, ev_1, ev_2, ev_3, evn])
  refine wcall_plain (awakeC Frm.nil) rfl (by rintro _ rfl; exact ok_plain rfl) ?_
  rintro r rfl
  simp -implicitDefEqProofs only [evr, id, reduceCtorEq, reduceIte, Nat.reduceMul, Nat.reduceAdd, Nat.reduceLT, Nat.reduceLeDiff, Nat.reduceEqDiff, Int.reduceLT, Int.reduceBEq, Int.reduceBNe, Nat.reduceBEq, ptr, Bool.not_true, Bool.not_false, res_one, res_ro, par_one, idn_one, Int.reduceToNat, resRow, bne_self_eq_false, rExtract_tup, par_eq, ev_0, ev_1, ev_2, ev_3, evn]
  (refine hk _ ?_; clear hk k; try show Sat _ _ _ _ _)
  refine Sat.ret ?_
  simp only [Tryz.results3, evr, id, reduceCtorEq, reduceIte, Nat.reduceMul, Nat.reduceAdd, Nat.reduceLT, Nat.reduceLeDiff, Nat.reduceEqDiff, Int.reduceLT, Int.reduceBEq, Int.reduceBNe, Nat.reduceBEq, ptr, Bool.not_true, Bool.not_false, res_one, res_ro, par_one, idn_one, List.append_nil, Int.toNat_zero, Nat.sub_self, Int.reduceToNat, resRow, bne_self_eq_false, rExtract_tup, par_eq, ev_0, ev_1, ev_2, ev_3]
 obtain ⟨hr12, he12, hf12⟩ := hq h
 refine Sat.skip ?_
 simp only [thenK]
 refine Sat.settleBoxG 8 rfl rfl ?_
 refine Sat.settleBoxG 9 rfl rfl ?_
 refine Sat.settleBoxG 10 rfl rfl ?_
 refine Sat.settleBoxG 11 rfl rfl ?_
 simp -implicitDefEqProofs only [evr, id, reduceCtorEq, reduceIte, Nat.reduceMul, Nat.reduceAdd, Nat.reduceLT, Nat.reduceLeDiff, Nat.reduceEqDiff, Int.reduceLT, Int.reduceBEq, Int.reduceBNe, Nat.reduceBEq, ptr, Bool.not_true, Bool.not_false, res_one, res_ro, par_one, idn_one, Int.reduceToNat, resRow, bne_self_eq_false, rExtract_tup, par_eq, ev_0, ev_1, ev_2, ev_3, evn]
 refine Sat.seq ?_
 (refine Sat.region_k fun k hk => ?_; simp -implicitDefEqProofs only [evr, id, reduceCtorEq, reduceIte, Nat.reduceMul, Nat.reduceAdd, Nat.reduceLT, Nat.reduceLeDiff, Nat.reduceEqDiff, Int.reduceLT, Int.reduceBEq, Int.reduceBNe, Nat.reduceBEq, ptr, Bool.not_true, Bool.not_false, res_one, res_ro, par_one, idn_one, Int.reduceToNat, resRow, bne_self_eq_false, rExtract_tup, par_eq, ev_0, ev_1, ev_2, ev_3, evn])
 refine wcall_make (rollC (slB a cap z) hb) ?_
 intro cb
 simp -implicitDefEqProofs only [evr, id, reduceCtorEq, reduceIte, Nat.reduceMul, Nat.reduceAdd, Nat.reduceLT, Nat.reduceLeDiff, Nat.reduceEqDiff, Int.reduceLT, Int.reduceBEq, Int.reduceBNe, Nat.reduceBEq, ptr, Bool.not_true, Bool.not_false, res_one, res_ro, par_one, idn_one, Int.reduceToNat, resRow, bne_self_eq_false, rExtract_tup, par_eq, ev_0, ev_1, ev_2, ev_3, evn]
 (refine hk _ ?_; clear hk k; try show Sat _ _ _ _ _)
 refine Sat.switch (cb := cb) (id := 4) (F' := Frm.codes cb) (fun b => Iff.rfl) (fun _ h => h) rfl ?_
 (repeat refine Sat.seq ?_)
 (refine Sat.region_k fun k hk => ?_; simp -implicitDefEqProofs only [evr, id, reduceCtorEq, reduceIte, Nat.reduceMul, Nat.reduceAdd, Nat.reduceLT, Nat.reduceLeDiff, Nat.reduceEqDiff, Int.reduceLT, Int.reduceBEq, Int.reduceBNe, Nat.reduceBEq, ptr, Bool.not_true, Bool.not_false, res_one, res_ro, par_one, idn_one, Int.reduceToNat, resRow, bne_self_eq_false, rExtract_tup, par_eq, ev_0, ev_1, ev_2, ev_3, evn])
 refine wcall_new (resultsC true cb 20 (by omega)) rfl (by simp -implicitDefEqProofs only [evr, id, reduceCtorEq, reduceIte, Nat.reduceMul, Nat.reduceAdd, Nat.reduceLT, Nat.reduceLeDiff, Nat.reduceEqDiff, Int.reduceLT, Int.reduceBEq, Int.reduceBNe, Nat.reduceBEq, ptr, Bool.not_true, Bool.not_false, res_one, res_ro, par_one, idn_one, Int.reduceToNat, resRow, bne_self_eq_false, rExtract_tup, par_eq, ev_0, ev_1, ev_2, ev_3, evn]; try rfl) ?_
 rintro xa ty len xc sz rrd ⟨a1, c1, xs, n0, n1, hI, hxl, ee⟩
 simp only [resRow, Own.row.injEq] at ee
 obtain ⟨rfl, rfl, rfl, rfl, rfl, rfl⟩ := ee
 simp -implicitDefEqProofs only [evr, id, reduceCtorEq, reduceIte, Nat.reduceMul, Nat.reduceAdd, Nat.reduceLT, Nat.reduceLeDiff, Nat.reduceEqDiff, Int.reduceLT, Int.reduceBEq, Int.reduceBNe, Nat.reduceBEq, ptr, Bool.not_true, Bool.not_false, res_one, res_ro, par_one, idn_one, Int.reduceToNat, resRow, bne_self_eq_false, rExtract_tup, par_eq, ev_0, ev_1, ev_2, ev_3, evn]
 (refine hk _ ?_; clear hk k; try show Sat _ _ _ _ _)
 refine Sat.settle2 14 rfl rfl ?_
 simp -implicitDefEqProofs only [evr, id, reduceCtorEq, reduceIte, Nat.reduceMul, Nat.reduceAdd, Nat.reduceLT, Nat.reduceLeDiff, Nat.reduceEqDiff, Int.reduceLT, Int.reduceBEq, Int.reduceBNe, Nat.reduceBEq, ptr, Bool.not_true, Bool.not_false, res_one, res_ro, par_one, idn_one, Int.reduceToNat, resRow, bne_self_eq_false, rExtract_tup, par_eq, ev_0, ev_1, ev_2, ev_3, evn]
 (repeat refine Sat.seq ?_)
 (refine Sat.region_k fun k hk => ?_; simp -implicitDefEqProofs only [evr, id, reduceCtorEq, reduceIte, Nat.reduceMul, Nat.reduceAdd, Nat.reduceLT, Nat.reduceLeDiff, Nat.reduceEqDiff, Int.reduceLT, Int.reduceBEq, Int.reduceBNe, Nat.reduceBEq, ptr, Bool.not_true, Bool.not_false, res_one, res_ro, par_one, idn_one, Int.reduceToNat, resRow, bne_self_eq_false, rExtract_tup, par_eq, ev_0, ev_1, ev_2, ev_3, evn])
 refine wcall_plain (diceIdC cb xa xc xs (by omega)) rfl (by rintro _ ⟨d, rfl⟩; exact ok_aggL (l := Idn.cs d) rfl) ?_
 rintro r ⟨p1, rfl⟩
 simp only [idnAg, Idn.cs, evr, id, reduceCtorEq, reduceIte, Nat.reduceMul, Nat.reduceAdd, Nat.reduceLT, Nat.reduceLeDiff, Nat.reduceEqDiff, Int.reduceLT, Int.reduceBEq, Int.reduceBNe, Nat.reduceBEq, ptr, Bool.not_true, Bool.not_false, res_one, res_ro, par_one, idn_one, List.append_nil, Int.toNat_zero, Nat.sub_self, Int.reduceToNat, resRow, bne_self_eq_false, rExtract_tup, par_eq, ev_0, ev_1, ev_2, ev_3]
 refine wcall_plain (diceIdC cb xa xc xs (by omega)) rfl (by rintro _ ⟨d, rfl⟩; exact ok_aggL (l := Idn.cs d) rfl) ?_
 rintro r ⟨q1, rfl⟩
 simp only [idnAg, Idn.cs, evr, id, reduceCtorEq, reduceIte, Nat.reduceMul, Nat.reduceAdd, Nat.reduceLT, Nat.reduceLeDiff, Nat.reduceEqDiff, Int.reduceLT, Int.reduceBEq, Int.reduceBNe, Nat.reduceBEq, ptr, Bool.not_true, Bool.not_false, res_one, res_ro, par_one, idn_one, List.append_nil, Int.toNat_zero, Nat.sub_self, Int.reduceToNat, resRow, bne_self_eq_false, rExtract_tup, par_eq, ev_0, ev_1, ev_2, ev_3]
 intro b15 b16
 (refine hk _ ?_; clear hk k; try show Sat _ _ _ _ _)
 obtain ⟨re, hre⟩ : ∃ q : Nat → SV, q = fun j => [SV.i .i64 e.kind, .i .u32 e.a, .i .u32 e.b, .sl e.ad e.ids.length e.cap 3 (idnRd e.ids.toArray)].getD j default := ⟨_, rfl⟩
 obtain ⟨rf, hrf⟩ : ∃ q : Nat → SV, q = fun j => [SV.i .i64 f.kind, .i .u32 f.a, .i .u32 f.b, .sl f.ad f.ids.length f.cap 3 (idnRd f.ids.toArray)].getD j default := ⟨_, rfl⟩
 rw [← hre, ← hrf]
 (repeat refine Sat.seq ?_)
 refine Sat.at ⟨212, [(77, .b false), (13, .v (.pointer (some ⟨cb, 0, none⟩))), (14, .sl xa xs.length xc 17 (resRd xs.toArray)), (1, .sl ra raw.length rc 17 (resRd raw.toArray)), (8, .el ⟨b8, 0, none⟩ 4 re), (9, .el ⟨b9, 0, none⟩ 4 rf)], []⟩ ?_ ?_
 ·(refine Sat.region_qk (by kernel_rfl) (by kernel_rfl) fun k hk => ?_; simp -implicitDefEqProofs only [evr, id, reduceCtorEq, reduceIte, Nat.reduceMul, Nat.reduceAdd, Nat.reduceLT, Nat.reduceLeDiff, Nat.reduceEqDiff, Int.reduceLT, Int.reduceBEq, Int.reduceBNe, Nat.reduceBEq, ptr, Bool.not_true, Bool.not_false, res_one, res_ro, par_one, idn_one, Int.reduceToNat, resRow, bne_self_eq_false, rExtract_tup, par_eq, ev_0, ev_1, ev_2, ev_3, evn])
  refine qcall (compareIdC Frm.nil i1 j1) rfl (ok_plain rfl) ?_
  simp -implicitDefEqProofs only [evr, id, reduceCtorEq, reduceIte, Nat.reduceMul, Nat.reduceAdd, Nat.reduceLT, Nat.reduceLeDiff, Nat.reduceEqDiff, Int.reduceLT, Int.reduceBEq, Int.reduceBNe, Nat.reduceBEq, ptr, Bool.not_true, Bool.not_false, res_one, res_ro, par_one, idn_one, Int.reduceToNat, resRow, bne_self_eq_false, rExtract_tup, par_eq, ev_0, ev_1, ev_2, ev_3, evn]
  refine qcall (refCompareIdC Frm.nil i1 j1) rfl (ok_plain rfl) ?_
  simp -implicitDefEqProofs only [evr, id, reduceCtorEq, reduceIte, Nat.reduceMul, Nat.reduceAdd, Nat.reduceLT, Nat.reduceLeDiff, Nat.reduceEqDiff, Int.reduceLT, Int.reduceBEq, Int.reduceBNe, Nat.reduceBEq, ptr, Bool.not_true, Bool.not_false, res_one, res_ro, par_one, idn_one, Int.reduceToNat, resRow, bne_self_eq_false, rExtract_tup, par_eq, ev_0, ev_1, ev_2, ev_3, bne_self_eq_false, evn]
  refine qcall (compareIdC Frm.nil p1 q1) rfl (ok_plain rfl) ?_
  simp -implicitDefEqProofs only [evr, id, reduceCtorEq, reduceIte, Nat.reduceMul, Nat.reduceAdd, Nat.reduceLT, Nat.reduceLeDiff, Nat.reduceEqDiff, Int.reduceLT, Int.reduceBEq, Int.reduceBNe, Nat.reduceBEq, ptr, Bool.not_true, Bool.not_false, res_one, res_ro, par_one, idn_one, Int.reduceToNat, resRow, bne_self_eq_false, rExtract_tup, par_eq, ev_0, ev_1, ev_2, ev_3, evn]
  refine qcall (refCompareIdC Frm.nil p1 q1) rfl (ok_plain rfl) ?_
  simp -implicitDefEqProofs only [evr, id, reduceCtorEq, reduceIte, Nat.reduceMul, Nat.reduceAdd, Nat.reduceLT, Nat.reduceLeDiff, Nat.reduceEqDiff, Int.reduceLT, Int.reduceBEq, Int.reduceBNe, Nat.reduceBEq, ptr, Bool.not_true, Bool.not_false, res_one, res_ro, par_one, idn_one, Int.reduceToNat, resRow, bne_self_eq_false, rExtract_tup, par_eq, ev_0, ev_1, ev_2, ev_3, bne_self_eq_false, evn]
  refine hk _ ?_
  simp only [thenK]
  simp -implicitDefEqProofs only [evr, id, reduceCtorEq, reduceIte, Nat.reduceMul, Nat.reduceAdd, Nat.reduceLT, Nat.reduceLeDiff, Nat.reduceEqDiff, Int.reduceLT, Int.reduceBEq, Int.reduceBNe, Nat.reduceBEq, ptr, Bool.not_true, Bool.not_false, res_one, res_ro, par_one, idn_one, Int.reduceToNat, resRow, bne_self_eq_false, rExtract_tup, par_eq, ev_0, ev_1, ev_2, ev_3, evl, evn]
 simp only [thenK]
 (repeat refine Sat.seq ?_)
 refine Sat.cond_b rfl (fun h => absurd h (by decide)) (fun _ => ?_)
 refine Sat.skip ?_
 simp only [thenK]
 (repeat refine Sat.seq ?_)
 (refine Sat.region_k fun k hk => ?_; simp -implicitDefEqProofs only [evr, id, reduceCtorEq, reduceIte, Nat.reduceMul, Nat.reduceAdd, Nat.reduceLT, Nat.reduceLeDiff, Nat.reduceEqDiff, Int.reduceLT, Int.reduceBEq, Int.reduceBNe, Nat.reduceBEq, ptr, Bool.not_true, Bool.not_false, res_one, res_ro, par_one, idn_one, Int.reduceToNat, resRow, bne_self_eq_false, rExtract_tup, par_eq, ev_0, ev_1, ev_2, ev_3, evn])
 refine wcall_new (oddC cb xa xc xs (by omega) hI.inr) rfl (by simp -implicitDefEqProofs only [evr, id, reduceCtorEq, reduceIte, Nat.reduceMul, Nat.reduceAdd, Nat.reduceLT, Nat.reduceLeDiff, Nat.reduceEqDiff, Int.reduceLT, Int.reduceBEq, Int.reduceBNe, Nat.reduceBEq, ptr, Bool.not_true, Bool.not_false, res_one, res_ro, par_one, idn_one, Int.reduceToNat, resRow, bne_self_eq_false, rExtract_tup, par_eq, ev_0, ev_1, ev_2, ev_3, evn]; try rfl) ?_
 rintro oa ty len oc sz rrd ⟨a1, c1, os, hos, hol, ee⟩
 simp only [resRow, Own.row.injEq] at ee
 obtain ⟨rfl, rfl, rfl, rfl, rfl, rfl⟩ := ee
 simp -implicitDefEqProofs only [evr, id, reduceCtorEq, reduceIte, Nat.reduceMul, Nat.reduceAdd, Nat.reduceLT, Nat.reduceLeDiff, Nat.reduceEqDiff, Int.reduceLT, Int.reduceBEq, Int.reduceBNe, Nat.reduceBEq, ptr, Bool.not_true, Bool.not_false, res_one, res_ro, par_one, idn_one, Int.reduceToNat, resRow, bne_self_eq_false, rExtract_tup, par_eq, ev_0, ev_1, ev_2, ev_3, evn]
 intro blk
 (refine hk _ ?_; clear hk k; try show Sat _ _ _ _ _)
 obtain ⟨ys, hys⟩ : ∃ ys : List YP, ys = [⟨xa, xc, xs⟩, ⟨ra, rc, raw⟩, ⟨oa, oc, os⟩] := ⟨_, rfl⟩
 refine Sat.settleCell 1 0 (fun i _ => (ys.getD i default).sv) rfl rfl (by decide) (fun i c hi hc => ?_) ?_
 ·obtain rfl : c = 0 := by omega
  subst hys
  rcases (show i = 0 ∨ i = 1 ∨ i = 2 by omega) with rfl | rfl | rfl
  ·exact .inl (sim_refl _)
  ·exact .inl (sim_refl _)
  ·exact .inr ⟨rfl, rfl⟩
 simp -implicitDefEqProofs only [evr, id, reduceCtorEq, reduceIte, Nat.reduceMul, Nat.reduceAdd, Nat.reduceLT, Nat.reduceLeDiff, Nat.reduceEqDiff, Int.reduceLT, Int.reduceBEq, Int.reduceBNe, Nat.reduceBEq, ptr, Bool.not_true, Bool.not_false, res_one, res_ro, par_one, idn_one, Int.reduceToNat, resRow, bne_self_eq_false, rExtract_tup, par_eq, ev_0, ev_1, ev_2, ev_3, evn]
 refine Sat.settle2 83 rfl rfl ?_
 simp -implicitDefEqProofs only [evr, id, reduceCtorEq, reduceIte, Nat.reduceMul, Nat.reduceAdd, Nat.reduceLT, Nat.reduceLeDiff, Nat.reduceEqDiff, Int.reduceLT, Int.reduceBEq, Int.reduceBNe, Nat.reduceBEq, ptr, Bool.not_true, Bool.not_false, res_one, res_ro, par_one, idn_one, Int.reduceToNat, resRow, bne_self_eq_false, rExtract_tup, par_eq, ev_0, ev_1, ev_2, ev_3, evn]
 have hok : ∀ i, i < 3 → YOk (ys.getD i default) := by
  intro i hi
  subst hys
  rcases (show i = 0 ∨ i = 1 ∨ i = 2 by omega) with rfl | rfl | rfl
  ·exact ⟨hI.inr, by show xs.length ≤ 30; omega⟩
  ·exact ⟨hraw, by show raw.length ≤ 30; omega⟩
  ·exact ⟨hos, by show os.length ≤ 30; omega⟩
 clear hys
 (repeat refine Sat.seq ?_)
 refine Sat.block ?_
 refine Sat.loop (ι := Nat) (fun i => ⟨212, [(85, .i .i64 i), (84, .i .i64 3), (83, .sl (some ⟨blk, 0, none⟩) 3 3 1 (fun i _ => (ys.getD i default).sv)), (13, .v (.pointer (some ⟨cb, 0, none⟩))), (8, .el ⟨b8, 0, none⟩ 4 re), (9, .el ⟨b9, 0, none⟩ 4 rf)], []⟩)
  (fun i => i ≤ 3) (fun i => 3 - i) 0 (Nat.zero_le _) (by simp -implicitDefEqProofs only [evr, id, reduceCtorEq, reduceIte, Nat.reduceMul, Nat.reduceAdd, Nat.reduceLT, Nat.reduceLeDiff, Nat.reduceEqDiff, Int.reduceLT, Int.reduceBEq, Int.reduceBNe, Nat.reduceBEq, ptr, Bool.not_true, Bool.not_false, res_one, res_ro, par_one, idn_one, Int.reduceToNat, resRow, bne_self_eq_false, rExtract_tup, par_eq, ev_0, ev_1, ev_2, ev_3, evl, evn]; first | rfl | exact ⟨rfl, rfl⟩ | trace_state) ?_
 intro i hi
 (repeat refine Sat.seq ?_)
 (refine Sat.region_k fun k hk => ?_; simp -implicitDefEqProofs only [evr, id, reduceCtorEq, reduceIte, Nat.reduceMul, Nat.reduceAdd, Nat.reduceLT, Nat.reduceLeDiff, Nat.reduceEqDiff, Int.reduceLT, Int.reduceBEq, Int.reduceBNe, Nat.reduceBEq, ptr, Bool.not_true, Bool.not_false, res_one, res_ro, par_one, idn_one, Int.reduceToNat, resRow, bne_self_eq_false, rExtract_tup, par_eq, ev_0, ev_1, ev_2, ev_3, evn]; refine hk _ ?_; clear hk k; try show Sat _ _ _ _ _)
 (repeat refine Sat.seq ?_)
 refine Sat.cond_b rfl (fun h => ?_) (fun h => ?_)
 ·have h1 : i < 3 := by simp only [decide_eq_true_eq] at h; omega
  have e2 : IntKind.i64.wrap ((i : Int) + 1) = ((i + 1 : Nat) : Int) := by rw [w64 (by omega)]; omega
  obtain ⟨y, hy⟩ : ∃ y, ys.getD i default = y := ⟨_, rfl⟩
  have hyk := hok i h1
  rw [hy] at hyk
  obtain ⟨hrg, hlen⟩ := hyk
  refine Sat.skip ?_
  simp only [thenK]
  (repeat refine Sat.seq ?_)
  refine Sat.block ?_
  (repeat refine Sat.seq ?_)
  (refine Sat.region_k fun k hk => ?_; simp -implicitDefEqProofs only [evr, id, reduceCtorEq, reduceIte, Nat.reduceMul, Nat.reduceAdd, Nat.reduceLT, Nat.reduceLeDiff, Nat.reduceEqDiff, Int.reduceLT, Int.reduceBEq, Int.reduceBNe, Nat.reduceBEq, ptr, Bool.not_true, Bool.not_false, res_one, res_ro, par_one, idn_one, Int.reduceToNat, resRow, bne_self_eq_false, rExtract_tup, par_eq, ev_0, ev_1, ev_2, ev_3, evn])
  refine ⟨by omega, ?_⟩
  simp only [hy, YP.sv]
  (refine hk _ ?_; clear hk k; try show Sat _ _ _ _ _)
  (repeat refine Sat.seq ?_)
  (refine Sat.region_k fun k hk => ?_; simp -implicitDefEqProofs only [evr, id, reduceCtorEq, reduceIte, Nat.reduceMul, Nat.reduceAdd, Nat.reduceLT, Nat.reduceLeDiff, Nat.reduceEqDiff, Int.reduceLT, Int.reduceBEq, Int.reduceBNe, Nat.reduceBEq, ptr, Bool.not_true, Bool.not_false, res_one, res_ro, par_one, idn_one, Int.reduceToNat, resRow, bne_self_eq_false, rExtract_tup, par_eq, ev_0, ev_1, ev_2, ev_3, evn])
  refine wcall_slice (pairsC2 (Frm.codes cb) y.a y.c y.l (by omega) hrg) rfl (by simp -implicitDefEqProofs only [evr, id, reduceCtorEq, reduceIte, Nat.reduceMul, Nat.reduceAdd, Nat.reduceLT, Nat.reduceLeDiff, Nat.reduceEqDiff, Int.reduceLT, Int.reduceBEq, Int.reduceBNe, Nat.reduceBEq, ptr, Bool.not_true, Bool.not_false, res_one, res_ro, par_one, idn_one, Int.reduceToNat, resRow, bne_self_eq_false, rExtract_tup, par_eq, ev_0, ev_1, ev_2, ev_3, evn]) ?_
  rintro r ⟨pa, pc, ps, hps, rfl⟩
  simp -implicitDefEqProofs only [evr, id, reduceCtorEq, reduceIte, Nat.reduceMul, Nat.reduceAdd, Nat.reduceLT, Nat.reduceLeDiff, Nat.reduceEqDiff, Int.reduceLT, Int.reduceBEq, Int.reduceBNe, Nat.reduceBEq, ptr, Bool.not_true, Bool.not_false, res_one, res_ro, par_one, idn_one, Int.reduceToNat, resRow, bne_self_eq_false, rExtract_tup, par_eq, ev_0, ev_1, ev_2, ev_3, evn]
  (refine hk _ ?_; clear hk k; try show Sat _ _ _ _ _)
  (repeat refine Sat.seq ?_)
  (refine Sat.region_k fun k hk => ?_; simp -implicitDefEqProofs only [evr, id, reduceCtorEq, reduceIte, Nat.reduceMul, Nat.reduceAdd, Nat.reduceLT, Nat.reduceLeDiff, Nat.reduceEqDiff, Int.reduceLT, Int.reduceBEq, Int.reduceBNe, Nat.reduceBEq, ptr, Bool.not_true, Bool.not_false, res_one, res_ro, par_one, idn_one, Int.reduceToNat, resRow, bne_self_eq_false, rExtract_tup, par_eq, ev_0, ev_1, ev_2, ev_3, evn])
  refine wcall_slice (refPairsC2 (Frm.codes cb) y.a y.c y.l (by omega) hrg) rfl (by simp -implicitDefEqProofs only [evr, id, reduceCtorEq, reduceIte, Nat.reduceMul, Nat.reduceAdd, Nat.reduceLT, Nat.reduceLeDiff, Nat.reduceEqDiff, Int.reduceLT, Int.reduceBEq, Int.reduceBNe, Nat.reduceBEq, ptr, Bool.not_true, Bool.not_false, res_one, res_ro, par_one, idn_one, Int.reduceToNat, resRow, bne_self_eq_false, rExtract_tup, par_eq, ev_0, ev_1, ev_2, ev_3, evn]) ?_
  rintro r ⟨qa, qc, qs, hqs, rfl⟩
  simp -implicitDefEqProofs only [evr, id, reduceCtorEq, reduceIte, Nat.reduceMul, Nat.reduceAdd, Nat.reduceLT, Nat.reduceLeDiff, Nat.reduceEqDiff, Int.reduceLT, Int.reduceBEq, Int.reduceBNe, Nat.reduceBEq, ptr, Bool.not_true, Bool.not_false, res_one, res_ro, par_one, idn_one, Int.reduceToNat, resRow, bne_self_eq_false, rExtract_tup, par_eq, ev_0, ev_1, ev_2, ev_3, evn]
  (refine hk _ ?_; clear hk k; try show Sat _ _ _ _ _)
  have hsame : decide (ps.map Evd.say = qs.map Evd.say) = true := decide_eq_true (pr_same hps hqs)
  obtain ⟨hpi, hpl⟩ := pr_in hps hrg
  obtain ⟨hqi, hql⟩ := pr_in hqs hrg
  (repeat refine Sat.seq ?_)
  refine Sat.at ⟨212, [(107, .b false), (21, .sl qa qs.length qc 4 (evRd qs)), (18, .sl y.a y.l.length y.c 17 (resRd y.l.toArray)), (85, .i .i64 i), (84, .i .i64 3), (83, .sl (some ⟨blk, 0, none⟩) 3 3 1 (fun i _ => (ys.getD i default).sv)), (13, .v (.pointer (some ⟨cb, 0, none⟩))), (8, .el ⟨b8, 0, none⟩ 4 re), (9, .el ⟨b9, 0, none⟩ 4 rf)], []⟩ ?_ ?_
  ·(refine Sat.region_k fun k hk => ?_; simp -implicitDefEqProofs only [evr, id, reduceCtorEq, reduceIte, Nat.reduceMul, Nat.reduceAdd, Nat.reduceLT, Nat.reduceLeDiff, Nat.reduceEqDiff, Int.reduceLT, Int.reduceBEq, Int.reduceBNe, Nat.reduceBEq, ptr, Bool.not_true, Bool.not_false, res_one, res_ro, par_one, idn_one, Int.reduceToNat, resRow, bne_self_eq_false, rExtract_tup, par_eq, ev_0, ev_1, ev_2, ev_3, evn])
   refine wcall_plain (sameEvC (Frm.codes cb) pa qa pc qc ps qs (by omega) hpi hqi) rfl (by rintro _ rfl; exact ok_plain rfl) ?_
   rintro _ rfl
   rw [hsame]
   simp -implicitDefEqProofs only [evr, id, reduceCtorEq, reduceIte, Nat.reduceMul, Nat.reduceAdd, Nat.reduceLT, Nat.reduceLeDiff, Nat.reduceEqDiff, Int.reduceLT, Int.reduceBEq, Int.reduceBNe, Nat.reduceBEq, ptr, Bool.not_true, Bool.not_false, res_one, res_ro, par_one, idn_one, Int.reduceToNat, resRow, bne_self_eq_false, rExtract_tup, par_eq, ev_0, ev_1, ev_2, ev_3, evn]
   refine hk _ ?_
   simp only [thenK]
   simp -implicitDefEqProofs only [evr, id, reduceCtorEq, reduceIte, Nat.reduceMul, Nat.reduceAdd, Nat.reduceLT, Nat.reduceLeDiff, Nat.reduceEqDiff, Int.reduceLT, Int.reduceBEq, Int.reduceBNe, Nat.reduceBEq, ptr, Bool.not_true, Bool.not_false, res_one, res_ro, par_one, idn_one, Int.reduceToNat, resRow, bne_self_eq_false, rExtract_tup, par_eq, ev_0, ev_1, ev_2, ev_3, evl, evn]
   rfl
  simp only [thenK]
  clear hps hqs hsame hpi hpl
  (repeat refine Sat.seq ?_)
  refine Sat.cond_b rfl (fun h => absurd h (by decide)) (fun _ => ?_)
  refine Sat.skip ?_
  simp only [thenK]
  (repeat refine Sat.seq ?_)
  (refine Sat.region_k fun k hk => ?_; simp -implicitDefEqProofs only [evr, id, reduceCtorEq, reduceIte, Nat.reduceMul, Nat.reduceAdd, Nat.reduceLT, Nat.reduceLeDiff, Nat.reduceEqDiff, Int.reduceLT, Int.reduceBEq, Int.reduceBNe, Nat.reduceBEq, ptr, Bool.not_true, Bool.not_false, res_one, res_ro, par_one, idn_one, Int.reduceToNat, resRow, bne_self_eq_false, rExtract_tup, par_eq, ev_0, ev_1, ev_2, ev_3, evn]; refine hk _ ?_; clear hk k; try show Sat _ _ _ _ _)
  (repeat refine Sat.seq ?_)
  refine Sat.block ?_
  refine Sat.loop (ι := Nat) (fun q => ⟨212, [(110, .i .i64 q), (109, .i .i64 y.l.length), (21, .sl qa qs.length qc 4 (evRd qs)), (18, .sl y.a y.l.length y.c 17 (resRd y.l.toArray)), (85, .i .i64 i), (84, .i .i64 3), (83, .sl (some ⟨blk, 0, none⟩) 3 3 1 (fun i _ => (ys.getD i default).sv)), (13, .v (.pointer (some ⟨cb, 0, none⟩))), (8, .el ⟨b8, 0, none⟩ 4 re), (9, .el ⟨b9, 0, none⟩ 4 rf)], []⟩)
   (fun q => q ≤ y.l.length) (fun q => y.l.length - q) 0 (Nat.zero_le _) (by simp -implicitDefEqProofs only [evr, id, reduceCtorEq, reduceIte, Nat.reduceMul, Nat.reduceAdd, Nat.reduceLT, Nat.reduceLeDiff, Nat.reduceEqDiff, Int.reduceLT, Int.reduceBEq, Int.reduceBNe, Nat.reduceBEq, ptr, Bool.not_true, Bool.not_false, res_one, res_ro, par_one, idn_one, Int.reduceToNat, resRow, bne_self_eq_false, rExtract_tup, par_eq, ev_0, ev_1, ev_2, ev_3, evl, evn]; first | rfl | trace_state) ?_
  intro q hq
  (repeat refine Sat.seq ?_)
  (refine Sat.region_k fun k hk => ?_; simp -implicitDefEqProofs only [evr, id, reduceCtorEq, reduceIte, Nat.reduceMul, Nat.reduceAdd, Nat.reduceLT, Nat.reduceLeDiff, Nat.reduceEqDiff, Int.reduceLT, Int.reduceBEq, Int.reduceBNe, Nat.reduceBEq, ptr, Bool.not_true, Bool.not_false, res_one, res_ro, par_one, idn_one, Int.reduceToNat, resRow, bne_self_eq_false, rExtract_tup, par_eq, ev_0, ev_1, ev_2, ev_3, evn]; refine hk _ ?_; clear hk k; try show Sat _ _ _ _ _)
  (repeat refine Sat.seq ?_)
  refine Sat.cond_b rfl (fun h3 => ?_) (fun h3 => ?_)
  ·have h4 : q < y.l.length := by simp only [decide_eq_true_eq] at h3; omega
   have e3 : IntKind.i64.wrap ((q : Int) + 1) = ((q + 1 : Nat) : Int) := by rw [w64 (by omega)]; omega
   refine Sat.skip ?_
   simp only [thenK]
   (repeat refine Sat.seq ?_)
   refine Sat.block ?_
   (repeat refine Sat.seq ?_)
   (refine Sat.region_k fun k hk => ?_; simp -implicitDefEqProofs only [evr, id, reduceCtorEq, reduceIte, Nat.reduceMul, Nat.reduceAdd, Nat.reduceLT, Nat.reduceLeDiff, Nat.reduceEqDiff, Int.reduceLT, Int.reduceBEq, Int.reduceBNe, Nat.reduceBEq, ptr, Bool.not_true, Bool.not_false, res_one, res_ro, par_one, idn_one, Int.reduceToNat, resRow, bne_self_eq_false, rExtract_tup, par_eq, ev_0, ev_1, ev_2, ev_3, evn]; refine hk _ ?_; clear hk k; try show Sat _ _ _ _ _)
   (repeat refine Sat.seq ?_)
   (refine Sat.region_k fun k hk => ?_; simp -implicitDefEqProofs only [evr, id, reduceCtorEq, reduceIte, Nat.reduceMul, Nat.reduceAdd, Nat.reduceLT, Nat.reduceLeDiff, Nat.reduceEqDiff, Int.reduceLT, Int.reduceBEq, Int.reduceBNe, Nat.reduceBEq, ptr, Bool.not_true, Bool.not_false, res_one, res_ro, par_one, idn_one, Int.reduceToNat, resRow, bne_self_eq_false, rExtract_tup, par_eq, ev_0, ev_1, ev_2, ev_3, evn])
   refine ⟨by omega, ?_⟩
   refine wcall_plain (showC (Frm.codes cb) y.l.toArray[q]!) rfl (by rintro _ rfl; exact showS_ok _) ?_
   rintro _ rfl
   have hsc := refShowC (Frm.codes cb) y.l.toArray[q]!
   obtain ⟨sh, bo, hsh⟩ : ∃ (sh : Par) (bo : Bool), showS (showR y.l.toArray[q]!) = tupL [parAg sh, .b bo] := by
    cases showR y.l.toArray[q]! with
    | none => exact ⟨_, _, rfl⟩
    | some p => exact ⟨_, _, rfl⟩
   rw [hsh] at hsc ⊢
   simp only [tupL, parAg, Par.cs, evr, id, reduceCtorEq, reduceIte, Nat.reduceMul, Nat.reduceAdd, Nat.reduceLT, Nat.reduceLeDiff, Nat.reduceEqDiff, Int.reduceLT, Int.reduceBEq, Int.reduceBNe, Nat.reduceBEq, ptr, Bool.not_true, Bool.not_false, res_one, res_ro, par_one, idn_one, List.append_nil, Int.toNat_zero, Nat.sub_self, Int.reduceToNat, resRow, bne_self_eq_false, rExtract_tup, par_eq, ev_0, ev_1, ev_2, ev_3]
   intro b24
   (refine hk _ ?_; clear hk k; try show Sat _ _ _ _ _)
   (repeat refine Sat.seq ?_)
   (refine Sat.region_k fun k hk => ?_; simp -implicitDefEqProofs only [evr, id, reduceCtorEq, reduceIte, Nat.reduceMul, Nat.reduceAdd, Nat.reduceLT, Nat.reduceLeDiff, Nat.reduceEqDiff, Int.reduceLT, Int.reduceBEq, Int.reduceBNe, Nat.reduceBEq, ptr, Bool.not_true, Bool.not_false, res_one, res_ro, par_one, idn_one, Int.reduceToNat, resRow, bne_self_eq_false, rExtract_tup, par_eq, ev_0, ev_1, ev_2, ev_3, evn])
   refine ⟨by omega, ?_⟩
   refine wcall_plain hsc rfl (by rintro _ rfl; rw [← hsh]; exact showS_ok _) ?_
   rintro _ rfl
   simp only [tupL, parAg, Par.cs, evr, id, reduceCtorEq, reduceIte, Nat.reduceMul, Nat.reduceAdd, Nat.reduceLT, Nat.reduceLeDiff, Nat.reduceEqDiff, Int.reduceLT, Int.reduceBEq, Int.reduceBNe, Nat.reduceBEq, ptr, Bool.not_true, Bool.not_false, res_one, res_ro, par_one, idn_one, List.append_nil, Int.toNat_zero, Nat.sub_self, Int.reduceToNat, resRow, bne_self_eq_false, rExtract_tup, par_eq, ev_0, ev_1, ev_2, ev_3]
   intro b26
   (refine hk _ ?_; clear hk k; try show Sat _ _ _ _ _)
   (repeat refine Sat.seq ?_)
   (refine Sat.region_k fun k hk => ?_; simp -implicitDefEqProofs only [evr, id, reduceCtorEq, reduceIte, Nat.reduceMul, Nat.reduceAdd, Nat.reduceLT, Nat.reduceLeDiff, Nat.reduceEqDiff, Int.reduceLT, Int.reduceBEq, Int.reduceBNe, Nat.reduceBEq, ptr, Bool.not_true, Bool.not_false, res_one, res_ro, par_one, idn_one, Int.reduceToNat, resRow, bne_self_eq_false, rExtract_tup, par_eq, ev_0, ev_1, ev_2, ev_3, evn])
   refine hk _ ?_
   clear hk k
   try show Sat _ _ _ _ _
   refine Sat.cond_b rfl (fun h => absurd h (by decide)) (fun _ => ?_)
   refine Sat.skip ?_
   simp only [thenK, blockK, reduceIte]
   refine Sat.region_k fun k hk => ?_
   simp -implicitDefEqProofs only [evr, id, reduceCtorEq, reduceIte, Nat.reduceMul, Nat.reduceAdd, Nat.reduceLT, Nat.reduceLeDiff, Nat.reduceEqDiff, Int.reduceLT, Int.reduceBEq, Int.reduceBNe, Nat.reduceBEq, ptr, Bool.not_true, Bool.not_false, res_one, res_ro, par_one, idn_one, Int.reduceToNat, resRow, bne_self_eq_false, rExtract_tup, par_eq, ev_0, ev_1, ev_2, ev_3, e3, evn]
   refine hk _ ?_
   simp only [thenK, blockK]
   refine ⟨q + 1, h4, by omega, ?_⟩
   simp -implicitDefEqProofs only [evr, id, reduceCtorEq, reduceIte, Nat.reduceMul, Nat.reduceAdd, Nat.reduceLT, Nat.reduceLeDiff, Nat.reduceEqDiff, Int.reduceLT, Int.reduceBEq, Int.reduceBNe, Nat.reduceBEq, ptr, Bool.not_true, Bool.not_false, res_one, res_ro, par_one, idn_one, Int.reduceToNat, resRow, bne_self_eq_false, rExtract_tup, par_eq, ev_0, ev_1, ev_2, ev_3, evl, evn]
  refine Sat.exit ?_
  simp only [thenK, blockK, reduceIte]
  (repeat refine Sat.seq ?_)
  (refine Sat.region_k fun k hk => ?_; simp -implicitDefEqProofs only [evr, id, reduceCtorEq, reduceIte, Nat.reduceMul, Nat.reduceAdd, Nat.reduceLT, Nat.reduceLeDiff, Nat.reduceEqDiff, Int.reduceLT, Int.reduceBEq, Int.reduceBNe, Nat.reduceBEq, ptr, Bool.not_true, Bool.not_false, res_one, res_ro, par_one, idn_one, Int.reduceToNat, resRow, bne_self_eq_false, rExtract_tup, par_eq, ev_0, ev_1, ev_2, ev_3, evn])
  refine wcall_slice (diceEvC cb) rfl rfl ?_
  rintro r ⟨od, hod1, hod2, rfl⟩
  simp only [evAg, Evd.cs, evr, id, reduceCtorEq, reduceIte, Nat.reduceMul, Nat.reduceAdd, Nat.reduceLT, Nat.reduceLeDiff, Nat.reduceEqDiff, Int.reduceLT, Int.reduceBEq, Int.reduceBNe, Nat.reduceBEq, ptr, Bool.not_true, Bool.not_false, res_one, res_ro, par_one, idn_one, List.append_nil, Int.toNat_zero, Nat.sub_self, Int.reduceToNat, resRow, bne_self_eq_false, rExtract_tup, par_eq, ev_0, ev_1, ev_2, ev_3]
  intro b28
  (refine hk _ ?_; clear hk k; try show Sat _ _ _ _ _)
  (repeat refine Sat.seq ?_)
  (refine Sat.region_k fun k hk => ?_; simp -implicitDefEqProofs only [evr, id, reduceCtorEq, reduceIte, Nat.reduceMul, Nat.reduceAdd, Nat.reduceLT, Nat.reduceLeDiff, Nat.reduceEqDiff, Int.reduceLT, Int.reduceBEq, Int.reduceBNe, Nat.reduceBEq, ptr, Bool.not_true, Bool.not_false, res_one, res_ro, par_one, idn_one, Int.reduceToNat, resRow, bne_self_eq_false, rExtract_tup, par_eq, ev_0, ev_1, ev_2, ev_3, evn])
  refine wcall_new (diceIdsC cb y.a y.c y.l 3 (by omega) (by omega)) rfl (by simp -implicitDefEqProofs only [evr, id, reduceCtorEq, reduceIte, Nat.reduceMul, Nat.reduceAdd, Nat.reduceLT, Nat.reduceLeDiff, Nat.reduceEqDiff, Int.reduceLT, Int.reduceBEq, Int.reduceBNe, Nat.reduceBEq, ptr, Bool.not_true, Bool.not_false, res_one, res_ro, par_one, idn_one, Int.reduceToNat, resRow, bne_self_eq_false, rExtract_tup, par_eq, ev_0, ev_1, ev_2, ev_3, evn]; try rfl) ?_
  rintro ia ty len ic sz rrd ⟨a1, c1, ids, hil, ee⟩
  simp only [Own.row.injEq] at ee
  obtain ⟨rfl, rfl, rfl, rfl, rfl, rfl⟩ := ee
  simp -implicitDefEqProofs only [evr, id, reduceCtorEq, reduceIte, Nat.reduceMul, Nat.reduceAdd, Nat.reduceLT, Nat.reduceLeDiff, Nat.reduceEqDiff, Int.reduceLT, Int.reduceBEq, Int.reduceBNe, Nat.reduceBEq, ptr, Bool.not_true, Bool.not_false, res_one, res_ro, par_one, idn_one, Int.reduceToNat, resRow, bne_self_eq_false, rExtract_tup, par_eq, ev_0, ev_1, ev_2, ev_3, evn]
  (refine hk _ ?_; clear hk k; try show Sat _ _ _ _ _)
  refine Sat.settleLeafF 0 3 rfl rfl rfl ?_
  simp -implicitDefEqProofs only [evr, id, reduceCtorEq, reduceIte, Nat.reduceMul, Nat.reduceAdd, Nat.reduceLT, Nat.reduceLeDiff, Nat.reduceEqDiff, Int.reduceLT, Int.reduceBEq, Int.reduceBNe, Nat.reduceBEq, ptr, Bool.not_true, Bool.not_false, res_one, res_ro, par_one, idn_one, Int.reduceToNat, resRow, bne_self_eq_false, rExtract_tup, par_eq, ev_0, ev_1, ev_2, ev_3, evn]
  (repeat refine Sat.seq ?_)
  (refine Sat.region_k fun k hk => ?_; simp -implicitDefEqProofs only [evr, id, reduceCtorEq, reduceIte, Nat.reduceMul, Nat.reduceAdd, Nat.reduceLT, Nat.reduceLeDiff, Nat.reduceEqDiff, Int.reduceLT, Int.reduceBEq, Int.reduceBNe, Nat.reduceBEq, ptr, Bool.not_true, Bool.not_false, res_one, res_ro, par_one, idn_one, Int.reduceToNat, resRow, bne_self_eq_false, rExtract_tup, par_eq, ev_0, ev_1, ev_2, ev_3, evn])
  have r0 : re 0 = .i .i64 e.kind := by rw [hre]; rfl
  have r1 : re 1 = .i .u32 e.a := by rw [hre]; rfl
  have r2 : re 2 = .i .u32 e.b := by rw [hre]; rfl
  have r3 : re 3 = .sl e.ad e.ids.length e.cap 3 (idnRd e.ids.toArray) := by rw [hre]; rfl
  have f0 : rf 0 = .i .i64 f.kind := by rw [hrf]; rfl
  have f1 : rf 1 = .i .u32 f.a := by rw [hrf]; rfl
  have f2 : rf 2 = .i .u32 f.b := by rw [hrf]; rfl
  have f3 : rf 3 = .sl f.ad f.ids.length f.cap 3 (idnRd f.ids.toArray) := by rw [hrf]; rfl
  simp only [r0, r1, r2, r3, f0, f1, f2, f3]
  refine ⟨rfl, fun bl => ⟨⟨by unfold maxLen; omega, by omega⟩, fun a2 c2 => ?_⟩⟩
  refine wcall_new (diceListC cb 3 (by omega)) rfl (by simp -implicitDefEqProofs only [evr, id, reduceCtorEq, reduceIte, Nat.reduceMul, Nat.reduceAdd, Nat.reduceLT, Nat.reduceLeDiff, Nat.reduceEqDiff, Int.reduceLT, Int.reduceBEq, Int.reduceBNe, Nat.reduceBEq, ptr, Bool.not_true, Bool.not_false, res_one, res_ro, par_one, idn_one, Int.reduceToNat, resRow, bne_self_eq_false, rExtract_tup, par_eq, ev_0, ev_1, ev_2, ev_3, evn]; try rfl) ?_
  rintro la ty len lc sz rrd ⟨a1, c1, ls, hls, hll, ee⟩
  simp only [Own.row.injEq] at ee
  obtain ⟨rfl, rfl, rfl, rfl, rfl, rfl⟩ := ee
  simp -implicitDefEqProofs only [evr, id, reduceCtorEq, reduceIte, Nat.reduceMul, Nat.reduceAdd, Nat.reduceLT, Nat.reduceLeDiff, Nat.reduceEqDiff, Int.reduceLT, Int.reduceBEq, Int.reduceBNe, Nat.reduceBEq, ptr, Bool.not_true, Bool.not_false, res_one, res_ro, par_one, idn_one, Int.reduceToNat, resRow, bne_self_eq_false, rExtract_tup, par_eq, ev_0, ev_1, ev_2, ev_3, evn]
  refine ⟨⟨by unfold maxLen; omega, by omega⟩, fun a3 c3 => ?_⟩
  (refine hk _ ?_; clear hk k; try show Sat _ _ _ _ _)
  obtain ⟨al, hal⟩ : ∃ al : List Evd, al = [e, f, ⟨1, od.a, od.b, ids, ia, ic⟩] ++ qs ++ ls := ⟨_, rfl⟩
  have hall : al.length = 3 + qs.length + ls.length := by rw [hal]; simp; omega
  have hale : ∀ g ∈ al, EvIn g := fun g hg => by
   rw [hal] at hg
   rcases List.mem_append.1 hg with hg | hg
   ·rcases List.mem_append.1 hg with hg | hg
    ·simp only [List.mem_cons, List.not_mem_nil, or_false] at hg
     rcases hg with rfl | rfl | rfl
     ·exact inA_ev he.1 he.2 (by omega)
     ·exact inA_ev hf.1 hf.2 (by omega)
     ·exact inA_ev hod1.1 hod1.2 (by show ids.length ≤ 1000000000; omega)
    ·exact hqi g hg
   ·exact inA_ev (hls g hg).1.1 (hls g hg).1.2 (by have := (hls g hg).2; omega)
  refine Sat.reread 2 (evRd al) rfl (fun p r hp hr => ?_) ?_
  ·rw [hal]
   exact all_rd (e := e) (f := f) (d := ⟨1, od.a, od.b, ids, ia, ic⟩) hp hr
  simp -implicitDefEqProofs only [evr, id, reduceCtorEq, reduceIte, Nat.reduceMul, Nat.reduceAdd, Nat.reduceLT, Nat.reduceLeDiff, Nat.reduceEqDiff, Int.reduceLT, Int.reduceBEq, Int.reduceBNe, Nat.reduceBEq, ptr, Bool.not_true, Bool.not_false, res_one, res_ro, par_one, idn_one, Int.reduceToNat, resRow, bne_self_eq_false, rExtract_tup, par_eq, ev_0, ev_1, ev_2, ev_3, evn]
  refine Sat.settle2 29 rfl rfl ?_
  simp -implicitDefEqProofs only [evr, id, reduceCtorEq, reduceIte, Nat.reduceMul, Nat.reduceAdd, Nat.reduceLT, Nat.reduceLeDiff, Nat.reduceEqDiff, Int.reduceLT, Int.reduceBEq, Int.reduceBNe, Nat.reduceBEq, ptr, Bool.not_true, Bool.not_false, res_one, res_ro, par_one, idn_one, Int.reduceToNat, resRow, bne_self_eq_false, rExtract_tup, par_eq, ev_0, ev_1, ev_2, ev_3, evn]
  refine Sat.le (st' := ⟨212, [(29, .sl a3 al.length c3 4 (evRd al)), (18, .sl y.a y.l.length y.c 17 (resRd y.l.toArray)), (85, .i .i64 i), (84, .i .i64 3), (83, .sl (some ⟨blk, 0, none⟩) 3 3 1 (fun i _ => (ys.getD i default).sv)), (13, .v (.pointer (some ⟨cb, 0, none⟩))), (8, .el ⟨b8, 0, none⟩ 4 re), (9, .el ⟨b9, 0, none⟩ 4 rf)], []⟩) ?_ ?_
  rotate_left
  ·rw [hall]
   simp -implicitDefEqProofs only [evr, id, reduceCtorEq, reduceIte, Nat.reduceMul, Nat.reduceAdd, Nat.reduceLT, Nat.reduceLeDiff, Nat.reduceEqDiff, Int.reduceLT, Int.reduceBEq, Int.reduceBNe, Nat.reduceBEq, ptr, Bool.not_true, Bool.not_false, res_one, res_ro, par_one, idn_one, Int.reduceToNat, resRow, bne_self_eq_false, rExtract_tup, par_eq, ev_0, ev_1, ev_2, ev_3, evl, evn]
   try rfl
  clear hal hls
  (repeat refine Sat.seq ?_)
  (refine Sat.region_k fun k hk => ?_; simp -implicitDefEqProofs only [evr, id, reduceCtorEq, reduceIte, Nat.reduceMul, Nat.reduceAdd, Nat.reduceLT, Nat.reduceLeDiff, Nat.reduceEqDiff, Int.reduceLT, Int.reduceBEq, Int.reduceBNe, Nat.reduceBEq, ptr, Bool.not_true, Bool.not_false, res_one, res_ro, par_one, idn_one, Int.reduceToNat, resRow, bne_self_eq_false, rExtract_tup, par_eq, ev_0, ev_1, ev_2, ev_3, evn]; refine hk _ ?_; clear hk k; try show Sat _ _ _ _ _)
  (repeat refine Sat.seq ?_)
  refine Sat.block ?_
  refine Sat.loop (ι := Nat) (fun q => ⟨212, [(156, .i .i64 q), (155, .i .i64 al.length), (29, .sl a3 al.length c3 4 (evRd al)), (18, .sl y.a y.l.length y.c 17 (resRd y.l.toArray)), (85, .i .i64 i), (84, .i .i64 3), (83, .sl (some ⟨blk, 0, none⟩) 3 3 1 (fun i _ => (ys.getD i default).sv)), (13, .v (.pointer (some ⟨cb, 0, none⟩))), (8, .el ⟨b8, 0, none⟩ 4 re), (9, .el ⟨b9, 0, none⟩ 4 rf)], []⟩)
   (fun q => q ≤ al.length) (fun q => al.length - q) 0 (Nat.zero_le _) (by simp -implicitDefEqProofs only [evr, id, reduceCtorEq, reduceIte, Nat.reduceMul, Nat.reduceAdd, Nat.reduceLT, Nat.reduceLeDiff, Nat.reduceEqDiff, Int.reduceLT, Int.reduceBEq, Int.reduceBNe, Nat.reduceBEq, ptr, Bool.not_true, Bool.not_false, res_one, res_ro, par_one, idn_one, Int.reduceToNat, resRow, bne_self_eq_false, rExtract_tup, par_eq, ev_0, ev_1, ev_2, ev_3, evl, evn]; first | rfl | trace_state) ?_
  intro q hq
  (repeat refine Sat.seq ?_)
  (refine Sat.region_k fun k hk => ?_; simp -implicitDefEqProofs only [evr, id, reduceCtorEq, reduceIte, Nat.reduceMul, Nat.reduceAdd, Nat.reduceLT, Nat.reduceLeDiff, Nat.reduceEqDiff, Int.reduceLT, Int.reduceBEq, Int.reduceBNe, Nat.reduceBEq, ptr, Bool.not_true, Bool.not_false, res_one, res_ro, par_one, idn_one, Int.reduceToNat, resRow, bne_self_eq_false, rExtract_tup, par_eq, ev_0, ev_1, ev_2, ev_3, evn]; refine hk _ ?_; clear hk k; try show Sat _ _ _ _ _)
  (repeat refine Sat.seq ?_)
  refine Sat.cond_b rfl (fun h3 => ?_) (fun h3 => ?_)
  ·have h4 : q < al.length := by simp only [decide_eq_true_eq] at h3; omega
   have e3 : IntKind.i64.wrap ((q : Int) + 1) = ((q + 1 : Nat) : Int) := by rw [w64 (by omega)]; omega
   obtain ⟨ha1, hb1, hg2⟩ := hale (al.getD q default) (getD_mem h4)
   refine Sat.skip ?_
   simp only [thenK]
   (repeat refine Sat.seq ?_)
   refine Sat.block ?_
   (repeat refine Sat.seq ?_)
   (refine Sat.region_k fun k hk => ?_; simp -implicitDefEqProofs only [evr, id, reduceCtorEq, reduceIte, Nat.reduceMul, Nat.reduceAdd, Nat.reduceLT, Nat.reduceLeDiff, Nat.reduceEqDiff, Int.reduceLT, Int.reduceBEq, Int.reduceBNe, Nat.reduceBEq, ptr, Bool.not_true, Bool.not_false, res_one, res_ro, par_one, idn_one, Int.reduceToNat, resRow, bne_self_eq_false, rExtract_tup, par_eq, ev_0, ev_1, ev_2, ev_3, evn]; refine hk _ ?_; clear hk k; try show Sat _ _ _ _ _)
   (repeat refine Sat.seq ?_)
   refine Sat.at ⟨212, [(184, .b false), (30, .i .i64 q), (156, .i .i64 q), (155, .i .i64 al.length), (29, .sl a3 al.length c3 4 (evRd al)), (18, .sl y.a y.l.length y.c 17 (resRd y.l.toArray)), (85, .i .i64 i), (84, .i .i64 3), (83, .sl (some ⟨blk, 0, none⟩) 3 3 1 (fun i _ => (ys.getD i default).sv)), (13, .v (.pointer (some ⟨cb, 0, none⟩))), (8, .el ⟨b8, 0, none⟩ 4 re), (9, .el ⟨b9, 0, none⟩ 4 rf)], []⟩ ?_ ?_
   ·(refine Sat.region_qk (by kernel_rfl) (by kernel_rfl) fun k hk => ?_; simp -implicitDefEqProofs only [evr, id, reduceCtorEq, reduceIte, Nat.reduceMul, Nat.reduceAdd, Nat.reduceLT, Nat.reduceLeDiff, Nat.reduceEqDiff, Int.reduceLT, Int.reduceBEq, Int.reduceBNe, Nat.reduceBEq, ptr, Bool.not_true, Bool.not_false, res_one, res_ro, par_one, idn_one, Int.reduceToNat, resRow, bne_self_eq_false, rExtract_tup, par_eq, ev_0, ev_1, ev_2, ev_3, evn])
    refine ⟨by omega, ?_⟩
    refine qcall (holdsC Frm.nil y.a y.c y.l (al.getD q default) (by omega) hg2) rfl (ok_plain rfl) ?_
    simp -implicitDefEqProofs only [evr, id, reduceCtorEq, reduceIte, Nat.reduceMul, Nat.reduceAdd, Nat.reduceLT, Nat.reduceLeDiff, Nat.reduceEqDiff, Int.reduceLT, Int.reduceBEq, Int.reduceBNe, Nat.reduceBEq, ptr, Bool.not_true, Bool.not_false, res_one, res_ro, par_one, idn_one, Int.reduceToNat, resRow, bne_self_eq_false, rExtract_tup, par_eq, ev_0, ev_1, ev_2, ev_3, evn]
    refine ⟨by omega, ?_⟩
    refine qcall (refHoldsC Frm.nil y.a y.c y.l (al.getD q default) (by omega) hrg hg2) rfl (ok_plain rfl) ?_
    simp -implicitDefEqProofs only [evr, id, reduceCtorEq, reduceIte, Nat.reduceMul, Nat.reduceAdd, Nat.reduceLT, Nat.reduceLeDiff, Nat.reduceEqDiff, Int.reduceLT, Int.reduceBEq, Int.reduceBNe, Nat.reduceBEq, ptr, Bool.not_true, Bool.not_false, res_one, res_ro, par_one, idn_one, Int.reduceToNat, resRow, bne_self_eq_false, rExtract_tup, par_eq, ev_0, ev_1, ev_2, ev_3, bne_self_eq_false, evn]
    refine ⟨by omega, ?_⟩
    refine qcall (validEvC Frm.nil (al.getD q default) hg2) rfl (ok_plain rfl) ?_
    simp -implicitDefEqProofs only [evr, id, reduceCtorEq, reduceIte, Nat.reduceMul, Nat.reduceAdd, Nat.reduceLT, Nat.reduceLeDiff, Nat.reduceEqDiff, Int.reduceLT, Int.reduceBEq, Int.reduceBNe, Nat.reduceBEq, ptr, Bool.not_true, Bool.not_false, res_one, res_ro, par_one, idn_one, Int.reduceToNat, resRow, bne_self_eq_false, rExtract_tup, par_eq, ev_0, ev_1, ev_2, ev_3, evn]
    refine ⟨by omega, ?_⟩
    refine qcall (refValidEvC Frm.nil (al.getD q default) hg2) rfl (ok_plain rfl) ?_
    simp -implicitDefEqProofs only [evr, id, reduceCtorEq, reduceIte, Nat.reduceMul, Nat.reduceAdd, Nat.reduceLT, Nat.reduceLeDiff, Nat.reduceEqDiff, Int.reduceLT, Int.reduceBEq, Int.reduceBNe, Nat.reduceBEq, ptr, Bool.not_true, Bool.not_false, res_one, res_ro, par_one, idn_one, Int.reduceToNat, resRow, bne_self_eq_false, rExtract_tup, par_eq, ev_0, ev_1, ev_2, ev_3, bne_self_eq_false, evn]
    refine hk _ ?_
    simp only [thenK]
    simp -implicitDefEqProofs only [evr, id, reduceCtorEq, reduceIte, Nat.reduceMul, Nat.reduceAdd, Nat.reduceLT, Nat.reduceLeDiff, Nat.reduceEqDiff, Int.reduceLT, Int.reduceBEq, Int.reduceBNe, Nat.reduceBEq, ptr, Bool.not_true, Bool.not_false, res_one, res_ro, par_one, idn_one, Int.reduceToNat, resRow, bne_self_eq_false, rExtract_tup, par_eq, ev_0, ev_1, ev_2, ev_3, evl, evn]
    try rfl
   simp only [thenK]
   (repeat refine Sat.seq ?_)
   refine Sat.cond_b rfl (fun h => absurd h (by decide)) (fun _ => ?_)
   refine Sat.skip ?_
   simp only [thenK]
   (repeat refine Sat.seq ?_)
   (refine Sat.region_k fun k hk => ?_; simp -implicitDefEqProofs only [evr, id, reduceCtorEq, reduceIte, Nat.reduceMul, Nat.reduceAdd, Nat.reduceLT, Nat.reduceLeDiff, Nat.reduceEqDiff, Int.reduceLT, Int.reduceBEq, Int.reduceBNe, Nat.reduceBEq, ptr, Bool.not_true, Bool.not_false, res_one, res_ro, par_one, idn_one, Int.reduceToNat, resRow, bne_self_eq_false, rExtract_tup, par_eq, ev_0, ev_1, ev_2, ev_3, evn]; refine hk _ ?_; clear hk k; try show Sat _ _ _ _ _)
   (repeat refine Sat.seq ?_)
   refine Sat.block ?_
   refine Sat.loop (ι := Nat) (fun p => ⟨212, [(187, .i .i64 p), (186, .i .i64 al.length), (30, .i .i64 q), (156, .i .i64 q), (155, .i .i64 al.length), (29, .sl a3 al.length c3 4 (evRd al)), (18, .sl y.a y.l.length y.c 17 (resRd y.l.toArray)), (85, .i .i64 i), (84, .i .i64 3), (83, .sl (some ⟨blk, 0, none⟩) 3 3 1 (fun i _ => (ys.getD i default).sv)), (13, .v (.pointer (some ⟨cb, 0, none⟩))), (8, .el ⟨b8, 0, none⟩ 4 re), (9, .el ⟨b9, 0, none⟩ 4 rf)], []⟩)
    (fun p => p ≤ al.length) (fun p => al.length - p) 0 (Nat.zero_le _) (by simp -implicitDefEqProofs only [evr, id, reduceCtorEq, reduceIte, Nat.reduceMul, Nat.reduceAdd, Nat.reduceLT, Nat.reduceLeDiff, Nat.reduceEqDiff, Int.reduceLT, Int.reduceBEq, Int.reduceBNe, Nat.reduceBEq, ptr, Bool.not_true, Bool.not_false, res_one, res_ro, par_one, idn_one, Int.reduceToNat, resRow, bne_self_eq_false, rExtract_tup, par_eq, ev_0, ev_1, ev_2, ev_3, evl, evn]; first | rfl | trace_state) ?_
   intro p hp
   (repeat refine Sat.seq ?_)
   (refine Sat.region_k fun k hk => ?_; simp -implicitDefEqProofs only [evr, id, reduceCtorEq, reduceIte, Nat.reduceMul, Nat.reduceAdd, Nat.reduceLT, Nat.reduceLeDiff, Nat.reduceEqDiff, Int.reduceLT, Int.reduceBEq, Int.reduceBNe, Nat.reduceBEq, ptr, Bool.not_true, Bool.not_false, res_one, res_ro, par_one, idn_one, Int.reduceToNat, resRow, bne_self_eq_false, rExtract_tup, par_eq, ev_0, ev_1, ev_2, ev_3, evn]; refine hk _ ?_; clear hk k; try show Sat _ _ _ _ _)
   (repeat refine Sat.seq ?_)
   refine Sat.cond_b rfl (fun h5 => ?_) (fun h5 => ?_)
   ·have h6 : p < al.length := by simp only [decide_eq_true_eq] at h5; omega
    have e4 : IntKind.i64.wrap ((p : Int) + 1) = ((p + 1 : Nat) : Int) := by rw [w64 (by omega)]; omega
    obtain ⟨ha2, hb2, hp2⟩ := hale (al.getD p default) (getD_mem h6)
    refine Sat.skip ?_
    simp only [thenK]
    (repeat refine Sat.seq ?_)
    refine Sat.block ?_
    (repeat refine Sat.seq ?_)
    (refine Sat.region_k fun k hk => ?_; simp -implicitDefEqProofs only [evr, id, reduceCtorEq, reduceIte, Nat.reduceMul, Nat.reduceAdd, Nat.reduceLT, Nat.reduceLeDiff, Nat.reduceEqDiff, Int.reduceLT, Int.reduceBEq, Int.reduceBNe, Nat.reduceBEq, ptr, Bool.not_true, Bool.not_false, res_one, res_ro, par_one, idn_one, Int.reduceToNat, resRow, bne_self_eq_false, rExtract_tup, par_eq, ev_0, ev_1, ev_2, ev_3, evn]; refine hk _ ?_; clear hk k; try show Sat _ _ _ _ _)
    (repeat refine Sat.seq ?_)
    (refine Sat.region_qk (by kernel_rfl) (by kernel_rfl) fun k hk => ?_; simp -implicitDefEqProofs only [evr, id, reduceCtorEq, reduceIte, Nat.reduceMul, Nat.reduceAdd, Nat.reduceLT, Nat.reduceLeDiff, Nat.reduceEqDiff, Int.reduceLT, Int.reduceBEq, Int.reduceBNe, Nat.reduceBEq, ptr, Bool.not_true, Bool.not_false, res_one, res_ro, par_one, idn_one, Int.reduceToNat, resRow, bne_self_eq_false, rExtract_tup, par_eq, ev_0, ev_1, ev_2, ev_3, evn])
    refine ⟨by omega, by omega, ?_⟩
    refine qcall (compareEvC Frm.nil (al.getD q default) (al.getD p default) hg2 hp2) rfl (ok_plain rfl) ?_
    simp -implicitDefEqProofs only [evr, id, reduceCtorEq, reduceIte, Nat.reduceMul, Nat.reduceAdd, Nat.reduceLT, Nat.reduceLeDiff, Nat.reduceEqDiff, Int.reduceLT, Int.reduceBEq, Int.reduceBNe, Nat.reduceBEq, ptr, Bool.not_true, Bool.not_false, res_one, res_ro, par_one, idn_one, Int.reduceToNat, resRow, bne_self_eq_false, rExtract_tup, par_eq, ev_0, ev_1, ev_2, ev_3, evn]
    refine ⟨by omega, by omega, ?_⟩
    refine qcall (refCompareEvC Frm.nil (al.getD q default) (al.getD p default) hg2 hp2 ha1 hb1 ha2 hb2) rfl (ok_plain rfl) ?_
    simp -implicitDefEqProofs only [evr, id, reduceCtorEq, reduceIte, Nat.reduceMul, Nat.reduceAdd, Nat.reduceLT, Nat.reduceLeDiff, Nat.reduceEqDiff, Int.reduceLT, Int.reduceBEq, Int.reduceBNe, Nat.reduceBEq, ptr, Bool.not_true, Bool.not_false, res_one, res_ro, par_one, idn_one, Int.reduceToNat, resRow, bne_self_eq_false, rExtract_tup, par_eq, ev_0, ev_1, ev_2, ev_3, bne_self_eq_false, evn]
    refine hk _ ?_
    simp only [thenK]
    (repeat refine Sat.seq ?_)
    refine Sat.cond_b rfl (fun h => absurd h (by decide)) (fun _ => ?_)
    refine Sat.skip ?_
    simp only [thenK, blockK, reduceIte]
    refine Sat.region_k fun k hk => ?_
    simp -implicitDefEqProofs only [evr, id, reduceCtorEq, reduceIte, Nat.reduceMul, Nat.reduceAdd, Nat.reduceLT, Nat.reduceLeDiff, Nat.reduceEqDiff, Int.reduceLT, Int.reduceBEq, Int.reduceBNe, Nat.reduceBEq, ptr, Bool.not_true, Bool.not_false, res_one, res_ro, par_one, idn_one, Int.reduceToNat, resRow, bne_self_eq_false, rExtract_tup, par_eq, ev_0, ev_1, ev_2, ev_3, e4, evn]
    refine hk _ ?_
    simp only [thenK, blockK]
    refine ⟨p + 1, h6, by omega, ?_⟩
    simp -implicitDefEqProofs only [evr, id, reduceCtorEq, reduceIte, Nat.reduceMul, Nat.reduceAdd, Nat.reduceLT, Nat.reduceLeDiff, Nat.reduceEqDiff, Int.reduceLT, Int.reduceBEq, Int.reduceBNe, Nat.reduceBEq, ptr, Bool.not_true, Bool.not_false, res_one, res_ro, par_one, idn_one, Int.reduceToNat, resRow, bne_self_eq_false, rExtract_tup, par_eq, ev_0, ev_1, ev_2, ev_3, evl, evn]
    try rfl
   refine Sat.exit ?_
   simp only [thenK, blockK, reduceIte]
   refine Sat.region_k fun k hk => ?_
   simp -implicitDefEqProofs only [evr, id, reduceCtorEq, reduceIte, Nat.reduceMul, Nat.reduceAdd, Nat.reduceLT, Nat.reduceLeDiff, Nat.reduceEqDiff, Int.reduceLT, Int.reduceBEq, Int.reduceBNe, Nat.reduceBEq, ptr, Bool.not_true, Bool.not_false, res_one, res_ro, par_one, idn_one, Int.reduceToNat, resRow, bne_self_eq_false, rExtract_tup, par_eq, ev_0, ev_1, ev_2, ev_3, e3, evn]
   refine hk _ ?_
   simp only [thenK, blockK]
   refine ⟨q + 1, h4, by omega, ?_⟩
   simp -implicitDefEqProofs only [evr, id, reduceCtorEq, reduceIte, Nat.reduceMul, Nat.reduceAdd, Nat.reduceLT, Nat.reduceLeDiff, Nat.reduceEqDiff, Int.reduceLT, Int.reduceBEq, Int.reduceBNe, Nat.reduceBEq, ptr, Bool.not_true, Bool.not_false, res_one, res_ro, par_one, idn_one, Int.reduceToNat, resRow, bne_self_eq_false, rExtract_tup, par_eq, ev_0, ev_1, ev_2, ev_3, evl, evn]
  refine Sat.exit ?_
  simp only [thenK, blockK, reduceIte]
  refine Sat.region_k fun k hk => ?_
  simp -implicitDefEqProofs only [evr, id, reduceCtorEq, reduceIte, Nat.reduceMul, Nat.reduceAdd, Nat.reduceLT, Nat.reduceLeDiff, Nat.reduceEqDiff, Int.reduceLT, Int.reduceBEq, Int.reduceBNe, Nat.reduceBEq, ptr, Bool.not_true, Bool.not_false, res_one, res_ro, par_one, idn_one, Int.reduceToNat, resRow, bne_self_eq_false, rExtract_tup, par_eq, ev_0, ev_1, ev_2, ev_3, e2, evn]
  refine hk _ ?_
  simp only [thenK, blockK]
  refine ⟨i + 1, h1, by omega, ?_⟩
  simp -implicitDefEqProofs only [evr, id, reduceCtorEq, reduceIte, Nat.reduceMul, Nat.reduceAdd, Nat.reduceLT, Nat.reduceLeDiff, Nat.reduceEqDiff, Int.reduceLT, Int.reduceBEq, Int.reduceBNe, Nat.reduceBEq, ptr, Bool.not_true, Bool.not_false, res_one, res_ro, par_one, idn_one, Int.reduceToNat, resRow, bne_self_eq_false, rExtract_tup, par_eq, ev_0, ev_1, ev_2, ev_3, evl, evn]
 refine Sat.exit ?_
 simp only [thenK, blockK, reduceIte]
 (repeat refine Sat.seq ?_)
 (refine Sat.region_k fun k hk => ?_; simp -implicitDefEqProofs only [evr, id, reduceCtorEq, reduceIte, Nat.reduceMul, Nat.reduceAdd, Nat.reduceLT, Nat.reduceLeDiff, Nat.reduceEqDiff, Int.reduceLT, Int.reduceBEq, Int.reduceBNe, Nat.reduceBEq, ptr, Bool.not_true, Bool.not_false, res_one, res_ro, par_one, idn_one, Int.reduceToNat, resRow, bne_self_eq_false, rExtract_tup, par_eq, ev_0, ev_1, ev_2, ev_3, evn]; refine hk _ ?_; clear hk k; try show Sat _ _ _ _ _)
 refine Sat.ret ?_
 simp only [Tryz.results3, evr, id, reduceCtorEq, reduceIte, Nat.reduceMul, Nat.reduceAdd, Nat.reduceLT, Nat.reduceLeDiff, Nat.reduceEqDiff, Int.reduceLT, Int.reduceBEq, Int.reduceBNe, Nat.reduceBEq, ptr, Bool.not_true, Bool.not_false, res_one, res_ro, par_one, idn_one, List.append_nil, Int.toNat_zero, Nat.sub_self, Int.reduceToNat, resRow, bne_self_eq_false, rExtract_tup, par_eq, ev_0, ev_1, ev_2, ev_3]
end Go.Proofs.YtepbdjpcoleegaaGreat
