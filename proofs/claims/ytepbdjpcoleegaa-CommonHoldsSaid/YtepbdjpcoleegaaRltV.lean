import Derived.Test.YtepbdjpcoleegaaSceV
import Derived.Test.YtepbdjpcoleegaaEpiM
import Derived.Test.YtepbdjpcoleegaaPoE
import Derived.Test.YtepbdjpcoleegaaPk3

/- Results, by the evaluator: dice.Results (of paths that may change, or not): each has a number of its own at its vantage. -/
set_option linter.unusedSimpArgs false
set_option linter.unusedVariables false
namespace Go.Proofs.Ytepbdjpcoleegaa
open Go.Sort Eng
def netRd (ns : List Net) : Nat → Nat → SV := fun i j => (Net.cs (ns.getD i default)).getD j default
theorem net_one (ns : List Net) (i j : Nat) (h : j < 5) : oneS (netRd ns i j) = true := by
 rcases (show j = 0 ∨ j = 1 ∨ j = 2 ∨ j = 3 ∨ j = 4 by omega) with rfl | rfl | rfl | rfl | rfl <;> rfl
theorem net_one1 {n : Net} {cs : List SV} (h : cs = n.cs) : rdEq 1 5 (rdL cs 5) (netRd [n]) := by
 subst h
 intro i j hi hj
 obtain rfl : i = 0 := by omega
 unfold rdL netRd
 simp
theorem net_two {n m : Net} : rdEq 2 5 (rdCat 1 (rdL n.cs 5) (rdL m.cs 5)) (netRd [n, m]) := by
 intro i j hi hj
 rcases (show i = 0 ∨ i = 1 by omega) with rfl | rfl <;> simp [rdCat, rdL, netRd]
def Net.with (n m : Net) : Net := ⟨n.v, n.d, n.pr, m.a, m.cap, m.l, n.last⟩
theorem NetOk.with {n m : Net} (h : NetOk n) (g : NetOk m) : NetOk (n.with m) := ⟨h.v, h.d, h.last, g.some, g.ps, h.d0, h.pr⟩
theorem net_set {ns : List Net} {i N : Nat} {m : Net} (hi : i < ns.length) : rdEq N 5 (rdSet (netRd ns) i 3 [.sl m.a m.l.length m.cap 1 (psRd m.l)]) (netRd (ns.set i ((ns.getD i default).with m))) := by
 intro p j hp hj
 unfold rdSet netRd
 by_cases e : p = i
 ·subst e
  have hg : (ns.set p ((ns.getD p default).with m)).getD p default = (ns.getD p default).with m := by simp [List.getD, hi]
  rw [hg]
  rcases (show j = 0 ∨ j = 1 ∨ j = 2 ∨ j = 3 ∨ j = 4 by omega) with rfl | rfl | rfl | rfl | rfl <;> simp [Net.cs, Net.with]
 ·have hg : (ns.set i ((ns.getD i default).with m)).getD p default = ns.getD p default := by simp [List.getD, Ne.symm e]
  rw [hg, if_neg (fun h => e h.1)]
theorem res_appS {ys : List Res} {x : Res} {cs : List SV} (h : simA cs (Res.cs x)) : ∀ i j, i < ys.length + 1 → j < 17 → sim (rdCat ys.length (resRd ys.toArray) (rdL cs 17) i j) (resRd (ys ++ [x]).toArray i j) := by
 intro i j hi hj
 unfold rdCat
 by_cases e : i < ys.length
 ·rw [if_pos e]
  have : resRd ys.toArray i j = resRd (ys ++ [x]).toArray i j := by unfold resRd; simp [getElem!_def, List.getElem?_append, e]
  rw [this]
  exact sim_refl _
 ·obtain rfl : i = ys.length := by omega
  rw [if_neg e]
  have e1 : resRd (ys ++ [x]).toArray ys.length j = (Res.cs x).getD j default := by unfold resRd; simp [getElem!_def]
  have e2 : rdL cs 17 (ys.length - ys.length) j = cs.getD j default := by unfold rdL; simp
  rw [e1, e2]
  exact simA_getD h j
structure RltI (xs : List Res) (n0 n1 : Nat) : Prop where
 inr : ∀ r ∈ xs, RgR r
 num : ∀ r ∈ xs, (r.vantage = 0 ∧ r.number < n0) ∨ (r.vantage = 1 ∧ r.number < n1)
 own : ∀ r ∈ xs, ∀ s ∈ xs, r.vantage = s.vantage → r.number = s.number → r = s
 val : ∀ r ∈ xs, validR r = true
 nd : xs.Pairwise fun r s => ¬ (r.vantage = s.vantage ∧ r.number = s.number)
theorem RltI.nil : RltI [] 0 0 := ⟨fun r h => (by cases h), fun r h => (by cases h), fun r h => (by cases h), fun r h => (by cases h), .nil⟩
theorem RltI.snoc0 {xs : List Res} {n0 n1 : Nat} {r : Res} (h : RltI xs n0 n1) (hr : RgR r) (hval : validR r = true) (hv : r.vantage = 0) (hn : r.number = n0) : RltI (xs ++ [r]) (n0 + 1) n1 := by
 refine ⟨fun s hs => ?_, fun s hs => ?_, fun s hs t ht e1 e2 => ?_, fun s hs => ?_, ?_⟩
 ·rcases List.mem_append.1 hs with hs | hs
  ·exact h.inr s hs
  ·rw [List.mem_singleton.1 hs]; exact hr
 ·rcases List.mem_append.1 hs with hs | hs
  ·rcases h.num s hs with ⟨a, b⟩ | ⟨a, b⟩
   ·exact .inl ⟨a, by omega⟩
   ·exact .inr ⟨a, b⟩
  ·rw [List.mem_singleton.1 hs]; exact .inl ⟨hv, by omega⟩
 ·rcases List.mem_append.1 hs with hs | hs <;> rcases List.mem_append.1 ht with ht | ht
  ·exact h.own s hs t ht e1 e2
  ·rw [List.mem_singleton.1 ht] at e1 e2
   rcases h.num s hs with ⟨a, b⟩ | ⟨a, b⟩ <;> omega
  ·rw [List.mem_singleton.1 hs] at e1 e2
   rcases h.num t ht with ⟨a, b⟩ | ⟨a, b⟩ <;> omega
  ·rw [List.mem_singleton.1 hs, List.mem_singleton.1 ht]
 ·rcases List.mem_append.1 hs with hs | hs
  ·exact h.val s hs
  ·rw [List.mem_singleton.1 hs]; exact hval
 ·refine List.pairwise_append.2 ⟨h.nd, List.pairwise_singleton _ _, fun s hs t ht e => ?_⟩
  rw [List.mem_singleton.1 ht] at e
  rcases h.num s hs with ⟨a, b⟩ | ⟨a, b⟩ <;> omega
theorem RltI.snoc1 {xs : List Res} {n0 n1 : Nat} {r : Res} (h : RltI xs n0 n1) (hr : RgR r) (hval : validR r = true) (hv : r.vantage = 1) (hn : r.number = n1) : RltI (xs ++ [r]) n0 (n1 + 1) := by
 refine ⟨fun s hs => ?_, fun s hs => ?_, fun s hs t ht e1 e2 => ?_, fun s hs => ?_, ?_⟩
 ·rcases List.mem_append.1 hs with hs | hs
  ·exact h.inr s hs
  ·rw [List.mem_singleton.1 hs]; exact hr
 ·rcases List.mem_append.1 hs with hs | hs
  ·rcases h.num s hs with ⟨a, b⟩ | ⟨a, b⟩
   ·exact .inl ⟨a, b⟩
   ·exact .inr ⟨a, by omega⟩
  ·rw [List.mem_singleton.1 hs]; exact .inr ⟨hv, by omega⟩
 ·rcases List.mem_append.1 hs with hs | hs <;> rcases List.mem_append.1 ht with ht | ht
  ·exact h.own s hs t ht e1 e2
  ·rw [List.mem_singleton.1 ht] at e1 e2
   rcases h.num s hs with ⟨a, b⟩ | ⟨a, b⟩ <;> omega
  ·rw [List.mem_singleton.1 hs] at e1 e2
   rcases h.num t ht with ⟨a, b⟩ | ⟨a, b⟩ <;> omega
  ·rw [List.mem_singleton.1 hs, List.mem_singleton.1 ht]
 ·rcases List.mem_append.1 hs with hs | hs
  ·exact h.val s hs
  ·rw [List.mem_singleton.1 hs]; exact hval
 ·refine List.pairwise_append.2 ⟨h.nd, List.pairwise_singleton _ _, fun s hs t ht e => ?_⟩
  rw [List.mem_singleton.1 ht] at e
  rcases h.num s hs with ⟨a, b⟩ | ⟨a, b⟩ <;> omega
theorem w64_inA {x : Int} (h : InA x) : w64i x = x := w64 ⟨by have := h.1; omega, by have := h.2; omega⟩
def AnsOk (b8 b9 : Bool) (fr kind left id quo : Int) : Prop :=
 (b8 = true ∧ fr ≠ 0 ∧ (1 ≤ kind ∧ kind ≤ 5) ∧ left = 60 ∧ (0 ≤ id ∧ id ≤ 65535) ∧ quo = 1) ∨ (b8 = false ∧ b9 = false ∧ fr = 0 ∧ kind = 0 ∧ left = 0 ∧ id = 0 ∧ quo = 0)
theorem rlt_valid {v num at' d pr fl ttl back fr kind left id quo : Int} {b8 b9 : Bool} (hv : 0 ≤ v ∧ v ≤ 1) (hn : 0 ≤ num ∧ num < 1000) (ha : 0 ≤ at' ∧ at' ≤ back ∧ back ≤ 1000000) (hd : d ≠ 0) (hp : pr = 17 ∨ pr = 1 ∨ pr = 6) (hf : 0 ≤ fl ∧ fl ≤ 3) (ht : 1 ≤ ttl ∧ ttl ≤ 4) (h : AnsOk b8 b9 fr kind left id quo) :
  validR ⟨v, 0, num, at', d, pr, fl, ttl, b8, b9, back, fr, kind, 0, left, id, quo⟩ = true := by
 have h1 : badRange ⟨v, 0, num, at', d, pr, fl, ttl, b8, b9, back, fr, kind, 0, left, id, quo⟩ = false := by
  unfold badRange idOk
  simp
  omega
 have h2 : badProto ⟨v, 0, num, at', d, pr, fl, ttl, b8, b9, back, fr, kind, 0, left, id, quo⟩ = false := by
  unfold badProto
  simp
  omega
 unfold validR chk
 rw [h1, h2]
 rcases h with ⟨rfl, hf, hk, rfl, hi, rfl⟩ | ⟨rfl, rfl, rfl, rfl, rfl, rfl, rfl⟩
 ·have h3 : badState ⟨v, 0, num, at', d, pr, fl, ttl, true, b9, back, fr, kind, 0, 60, id, 1⟩ = false := rfl
  have h4 : badAnswer ⟨v, 0, num, at', d, pr, fl, ttl, true, b9, back, fr, kind, 0, 60, id, 1⟩ = false := by
   unfold badAnswer octOk
   simp
   omega
  rw [h3, h4]
  simp [hd, hf]
 ·have h3 : badState ⟨v, 0, num, at', d, pr, fl, ttl, false, false, back, 0, 0, 0, 0, 0, 0⟩ = false := rfl
  have h4 : badAnswer ⟨v, 0, num, at', d, pr, fl, ttl, false, false, back, 0, 0, 0, 0, 0, 0⟩ = false := rfl
  rw [h3, h4]
  simp [hd]
structure RlP where
 k : Nat
 at_ : Int
 id : Int
 na : Option Addr
 nc : Nat
 ns : List Net
 ra : Option Addr
 rc : Nat
 xs : List Res
 n0 : Nat
 n1 : Nat
def numCs (n0 n1 : Nat) : List SV := [.i .i64 n0, .i .i64 n1, .i .i64 0, .i .i64 0, .i .i64 0, .i .i64 0, .i .i64 0, .i .i64 0, .i .i64 0, .i .i64 0, .i .i64 0, .i .i64 0, .i .i64 0, .i .i64 0, .i .i64 0, .i .i64 0]
def rlEnv (st : Bool) (cb most : Nat) (k : Nat) (at' id : Int) (bn : Nat) (ra : Option Addr) (rc rn : Nat) (na : Option Addr) (nc nn : Nat) : List (Nat × SV) :=
 [(12, .i .i64 k), (11, .op 1 bn 0), (10, .i .i64 id), (9, .i .i64 at'), (8, .os 2 ra rn rc), (7, .os 0 na nn nc), (0, .v (.pointer (some ⟨cb, 0, none⟩))), (1, .i .i64 most), (2, .b st)]
def rlOwn (bn : Nat) (na : Option Addr) (nc : Nat) (ns : List Net) (ra : Option Addr) (rc : Nat) (xs : List Res) (n0 n1 : Nat) (more : List Eng.Own) : List Eng.Own :=
 .row na 67 ns.length nc 5 (netRd ns) :: .box bn 70 (numCs n0 n1) :: .row ra 44 xs.length rc 17 (resRd xs.toArray) :: more
def RlOk (most m : Nat) (z : RlP) : Prop := z.xs.length + z.k ≤ most ∧ z.ns.length = m ∧ (∀ n ∈ z.ns, NetOk n) ∧ RltI z.xs z.n0 z.n1 ∧ z.n0 ≤ z.xs.length ∧ z.n1 ≤ z.xs.length ∧ (0 ≤ z.at_ ∧ z.at_ ≤ 50 + 70 * z.xs.length) ∧ (0 ≤ z.id ∧ z.id ≤ 70000 + 5 * z.xs.length)
def rlCs (v num at' d pr fl ttl : Int) (s8 s9 : SV) (back fr kind left id quoted : Int) : List SV := [.i .i64 v, .i .i64 0, .i .i64 num, .i .i64 at', .i .u32 d, .i .i64 pr, .i .i64 fl, .i .i64 ttl, s8, s9, .i .i64 back, .i .u32 fr, .i .i64 kind, .i .i64 0, .i .i64 left, .i .i64 id, .i .i64 quoted]
def rlBox (b14 b17 : Nat) (n : Net) (cs : List SV) : List Eng.Own := [.box b14 67 [.i .i64 n.v, .i .u32 n.d, .i .i64 n.pr, .sl n.a n.l.length n.cap 1 (psRd n.l), .i .u32 n.last], .box b17 44 cs]
set_option maxRecDepth 100000 in
set_option maxHeartbeats 4000000 in
theorem resultsC (st : Bool) (cb : Nat) (most : Nat) (hm : most ≤ 1000) :
  ContractN (Frm.codes cb) Try.prog 9 [ptr cb, .i .i64 most, .b st] (fun o => ∃ (a : Option Addr) (cap : Nat) (xs : List Res) (n0 n1 : Nat), RltI xs n0 n1 ∧ xs.length ≤ most ∧ o = resRow a xs.length cap xs.toArray) := by
 refine contractN_of Try.func9 rfl (by kernel_rfl) ?_
 simp only [Try.ntmps9, argEnv, ptr]
 (repeat refine Sat.seq ?_)
 (refine Sat.region_k fun k hk => ?_; simp -implicitDefEqProofs only [evr, id, seval, ptr, res_one, resRow, net_one, rlEnv, rlOwn, numCs, rlCs, rlBox, evn]; refine hk _ ?_; clear hk k; try show Sat _ _ _ _ _)
 (repeat refine Sat.seq ?_)
 (refine Sat.region_k fun k hk => ?_; simp -implicitDefEqProofs only [evr, id, seval, ptr, res_one, resRow, net_one, rlEnv, rlOwn, numCs, rlCs, rlBox, evn])
 refine wcall_slice (sceneC cb) rfl rfl ?_
 rintro r ⟨n, f, hn, rfl, hf⟩
 have f0 : f 0 = .i .i64 n.v := hf 0 (by omega)
 have f1 : f 1 = .i .u32 n.d := hf 1 (by omega)
 have f2 : f 2 = .i .i64 n.pr := hf 2 (by omega)
 have f3 : f 3 = .sl n.a n.l.length n.cap 1 (psRd n.l) := hf 3 (by omega)
 have f4 : f 4 = .i .u32 n.last := hf 4 (by omega)
 simp -implicitDefEqProofs only [evr, id, seval, ptr, res_one, resRow, net_one, rlEnv, rlOwn, numCs, rlCs, rlBox, f0, f1, f2, f3, f4, evn]
 intro b7
 (refine hk _ ?_; clear hk k; try show Sat _ _ _ _ _)
 (repeat refine Sat.seq ?_)
 (refine Sat.region_k fun k hk => ?_; simp -implicitDefEqProofs only [evr, id, seval, ptr, res_one, resRow, net_one, rlEnv, rlOwn, numCs, rlCs, rlBox, evn])
 refine wcall_plain (boolC cb 3 (by decide) (by decide)) rfl plain_bool ?_
 rintro r ⟨q, rfl⟩
 simp -implicitDefEqProofs only [evr, id, seval, ptr, res_one, resRow, net_one, rlEnv, rlOwn, numCs, rlCs, rlBox, evn]
 (refine hk _ ?_; clear hk k; try show Sat _ _ _ _ _)
 (repeat refine Sat.seq ?_)
 refine Sat.atF (ι := Option Addr × Nat × List Net) (fun z => ⟨175, [(7, .os 0 z.1 z.2.2.length z.2.1), (0, .v (.pointer (some ⟨cb, 0, none⟩))), (1, .i .i64 most), (2, .b st)], [.row z.1 67 z.2.2.length z.2.1 5 (netRd z.2.2)]⟩) (fun z => (1 ≤ z.2.2.length ∧ z.2.2.length ≤ 2) ∧ ∀ m ∈ z.2.2, NetOk m) ?_ ?_
 ·refine Sat.cond_b rfl (fun h => ?_) (fun h => ?_)
  ·(refine Sat.region_k fun k hk => ?_; simp -implicitDefEqProofs only [evr, id, seval, ptr, res_one, resRow, net_one, rlEnv, rlOwn, numCs, rlCs, rlBox, evn])
   refine wcall_slice (sceneC cb) rfl rfl ?_
   rintro r ⟨n2, g, hn2, rfl, hg⟩
   have g0 : g 0 = .i .i64 n2.v := hg 0 (by omega)
   have g1 : g 1 = .i .u32 n2.d := hg 1 (by omega)
   have g2 : g 2 = .i .i64 n2.pr := hg 2 (by omega)
   have g3 : g 3 = .sl n2.a n2.l.length n2.cap 1 (psRd n2.l) := hg 3 (by omega)
   have g4 : g 4 = .i .u32 n2.last := hg 4 (by omega)
   simp -implicitDefEqProofs only [evr, id, seval, ptr, res_one, resRow, net_one, rlEnv, rlOwn, numCs, rlCs, rlBox, g0, g1, g2, g3, g4, evn]
   intro b8
   refine ⟨by unfold maxLen; omega, fun a2 cap2 => hk _ ?_⟩
   simp only [thenK]
   refine ⟨(a2, cap2, [n, n2]), ⟨⟨by simp, by simp⟩, fun m hm => ?_⟩, ?_⟩
   ·rcases List.mem_cons.1 hm with rfl | hm
    ·exact hn
    ·rw [List.mem_singleton.1 hm]; exact hn2
   ·simp -implicitDefEqProofs only [evr, id, seval, ptr, res_one, resRow, net_one, rlEnv, rlOwn, numCs, rlCs, rlBox, evl, evn]
    exact net_two
  ·refine Sat.skip ?_
   simp only [thenK]
   refine ⟨(some ⟨b7, 0, none⟩, 1, [n]), ⟨⟨by simp, by simp⟩, fun m hm => by rw [List.mem_singleton.1 hm]; exact hn⟩, ?_⟩
   simp -implicitDefEqProofs only [evr, id, seval, ptr, res_one, resRow, net_one, rlEnv, rlOwn, numCs, rlCs, rlBox, evl, evn]
   exact net_one1 rfl
 rintro ⟨na, nc, ns⟩ ⟨hns, hnok⟩
 simp only [thenK] at hns hnok ⊢
 (repeat refine Sat.seq ?_)
 (refine Sat.region_k fun k hk => ?_; simp -implicitDefEqProofs only [evr, id, seval, ptr, res_one, resRow, net_one, rlEnv, rlOwn, numCs, rlCs, rlBox, evn]; refine hk _ ?_; clear hk k; try show Sat _ _ _ _ _)
 (repeat refine Sat.seq ?_)
 (refine Sat.region_k fun k hk => ?_; simp -implicitDefEqProofs only [evr, id, seval, ptr, res_one, resRow, net_one, rlEnv, rlOwn, numCs, rlCs, rlBox, evn])
 refine wcall_plain (nextC cb 50 (by omega) (by omega)) rfl (by rintro _ ⟨x, rfl, _⟩; exact ok_plain rfl) ?_
 rintro r ⟨at0, rfl, ha0, ha1⟩
 simp -implicitDefEqProofs only [evr, id, seval, ptr, res_one, resRow, net_one, rlEnv, rlOwn, numCs, rlCs, rlBox, evn]
 refine wcall_plain (nextC cb 700 (by omega) (by omega)) rfl (by rintro _ ⟨x, rfl, _⟩; exact ok_plain rfl) ?_
 rintro r ⟨id0, rfl, hb0, hb1⟩
 simp -implicitDefEqProofs only [evr, id, seval, ptr, res_one, resRow, net_one, rlEnv, rlOwn, numCs, rlCs, rlBox, evn]
 have ew0 : IntKind.i64.wrap (100 * id0) = 100 * id0 := w64 (by omega)
 obtain ⟨id1, hid1, hid2, hid3⟩ : ∃ y, IntKind.i64.wrap (100 * id0) = y ∧ 0 ≤ y ∧ y ≤ 70000 := ⟨_, rfl, by rw [ew0]; omega, by rw [ew0]; omega⟩
 simp only [hid1]
 clear ew0 hid1
 (refine hk _ ?_; clear hk k; try show Sat _ _ _ _ _)
 (repeat refine Sat.seq ?_)
 (refine Sat.region_k fun k hk => ?_; simp -implicitDefEqProofs only [evr, id, seval, ptr, res_one, resRow, net_one, rlEnv, rlOwn, numCs, rlCs, rlBox, evn])
 intro bn
 (refine hk _ ?_; clear hk k; try show Sat _ _ _ _ _)
 (repeat refine Sat.seq ?_)
 have e1 : IntKind.i64.wrap ((most : Int) + 1) = (most : Int) + 1 := w64 (by omega)
 (refine Sat.region_k fun k hk => ?_; simp -implicitDefEqProofs only [evr, id, seval, ptr, res_one, resRow, net_one, rlEnv, rlOwn, numCs, rlCs, rlBox, evn])
 refine wcall_plain (nextC cb ((most : Int) + 1) (by omega) (by omega)) (by simp -implicitDefEqProofs only [evr, id, seval, ptr, res_one, resRow, net_one, rlEnv, rlOwn, numCs, rlCs, rlBox, e1, evn]) (by rintro _ ⟨x, rfl, _⟩; exact ok_plain rfl) ?_
 rintro r ⟨x, rfl, hx0, hx1⟩
 obtain ⟨k0, rfl⟩ := Int.eq_ofNat_of_zero_le hx0
 simp -implicitDefEqProofs only [evr, id, seval, ptr, res_one, resRow, net_one, rlEnv, rlOwn, numCs, rlCs, rlBox, evn]
 (refine hk _ ?_; clear hk k; try show Sat _ _ _ _ _)
 refine Sat.adopt 8 44 17 (resRd #[]) rfl ?_
 simp -implicitDefEqProofs only [evr, id, seval, ptr, res_one, resRow, net_one, rlEnv, rlOwn, numCs, rlCs, rlBox, evn]
 refine Sat.block ?_
 refine Sat.loop (ι := RlP) (fun z => ⟨175, rlEnv st cb most z.k z.at_ z.id bn z.ra z.rc z.xs.length z.na z.nc z.ns.length, rlOwn bn z.na z.nc z.ns z.ra z.rc z.xs z.n0 z.n1 []⟩)
  (RlOk most ns.length) (fun z => z.k) ⟨k0, at0, id1, na, nc, ns, none, 0, [], 0, 0⟩ ⟨by simp only [List.length_nil]; omega, rfl, hnok, RltI.nil, Nat.le_refl _, Nat.le_refl _, ⟨by simp only; omega, by simp only; omega⟩, ⟨by simp only; omega, by simp only; omega⟩⟩ (by simp -implicitDefEqProofs only [evr, id, seval, ptr, res_one, resRow, net_one, rlEnv, rlOwn, numCs, rlCs, rlBox, evl, evn]; first | rfl | trace_state) ?_
 have hm0 : ∃ m, m = ns.length := ⟨_, rfl⟩
 obtain ⟨m, hm0⟩ := hm0
 rw [← hm0] at hns ⊢
 clear hm0 hnok ns na nc
 rintro ⟨k1, at1, id2, na, nc, ns, ra, rc, xs, n0, n1⟩ ⟨hxk, hnl, hnok, hI, hn0, hn1, ⟨hat0, hat1⟩, ⟨hid0, hid1⟩⟩
 simp only [rlEnv, rlOwn, numCs] at hxk hnl hnok hI hn0 hn1 hat0 hat1 hid0 hid1 ⊢
 (repeat refine Sat.seq ?_)
 (refine Sat.region_k fun k hk => ?_; simp -implicitDefEqProofs only [evr, id, seval, ptr, res_one, resRow, net_one, rlEnv, rlOwn, numCs, rlCs, rlBox, evn]; refine hk _ ?_; clear hk k; try show Sat _ _ _ _ _)
 (repeat refine Sat.seq ?_)
 refine Sat.cond_b rfl (fun h => ?_) (fun h => ?_)
 ·have h0 : 0 < k1 := by simp only [decide_eq_true_eq] at h; omega
  have e2 : IntKind.i64.wrap ((k1 : Int) - 1) = ((k1 - 1 : Nat) : Int) := by rw [w64 (by omega)]; omega
  refine Sat.skip ?_
  simp only [thenK]
  (repeat refine Sat.seq ?_)
  refine Sat.block ?_
  (repeat refine Sat.seq ?_)
  (refine Sat.region_k fun k hk => ?_; simp -implicitDefEqProofs only [evr, id, seval, ptr, res_one, resRow, net_one, rlEnv, rlOwn, numCs, rlCs, rlBox, evn])
  refine wcall_plain (nextC cb ns.length (by omega) (by omega)) (by simp -implicitDefEqProofs only [evr, id, seval, ptr, res_one, resRow, net_one, rlEnv, rlOwn, numCs, rlCs, rlBox, evn]) (by rintro _ ⟨x, rfl, _⟩; exact ok_plain rfl) ?_
  rintro r ⟨x, rfl, hi0, hi1⟩
  obtain ⟨i, rfl⟩ := Int.eq_ofNat_of_zero_le hi0
  have hi : i < ns.length := by omega
  simp -implicitDefEqProofs only [evr, id, seval, ptr, res_one, resRow, net_one, rlEnv, rlOwn, numCs, rlCs, rlBox, evn]
  (refine hk _ ?_; clear hk k; try show Sat _ _ _ _ _)
  (repeat refine Sat.seq ?_)
  refine Sat.joinK (ι := Bool) (fun q => ⟨175, (51, .b q) :: (13, .i .i64 i) :: rlEnv st cb most k1 at1 id2 bn ra rc xs.length na nc ns.length, rlOwn bn na nc ns ra rc xs n0 n1 []⟩) (fun _ => True) (fun hrest => ?_) ?_
  ·(refine Sat.region_k fun k hk => ?_; simp -implicitDefEqProofs only [evr, id, seval, ptr, res_one, resRow, net_one, rlEnv, rlOwn, numCs, rlCs, rlBox, evn])
   refine ⟨fun hs => ?_, fun hs => ?_⟩
   ·refine wcall_plain (boolC cb 12 (by decide) (by decide)) rfl plain_bool ?_
    rintro r ⟨q2, rfl⟩
    simp -implicitDefEqProofs only [evr, id, seval, ptr, res_one, resRow, net_one, rlEnv, rlOwn, numCs, rlCs, rlBox, evn]
    refine hk _ ?_
    simp only [thenK]
    refine (hrest q2 trivial).le ?_
    simp only [rlEnv, rlOwn, numCs]
    simp -implicitDefEqProofs only [evr, id, seval, ptr, res_one, resRow, net_one, rlEnv, rlOwn, numCs, rlCs, rlBox, evl, evn]
   ·refine hk _ ?_
    simp only [thenK]
    refine (hrest false trivial).le ?_
    simp only [rlEnv, rlOwn, numCs]
    simp -implicitDefEqProofs only [evr, id, seval, ptr, res_one, resRow, net_one, rlEnv, rlOwn, numCs, rlCs, rlBox, evl, evn]
  rintro q2 -
  simp only [rlEnv, rlOwn, numCs]
  (repeat refine Sat.seq ?_)
  refine Sat.atF (ι := List Net) (fun z => ⟨175, (13, .i .i64 i) :: rlEnv st cb most k1 at1 id2 bn ra rc xs.length na nc ns.length, rlOwn bn na nc z ra rc xs n0 n1 []⟩) (fun z => z.length = ns.length ∧ ∀ n ∈ z, NetOk n) ?_ ?_
  ·refine Sat.cond_b rfl (fun h => ?_) (fun h => ?_)
   ·(refine Sat.region_k fun k hk => ?_; simp -implicitDefEqProofs only [evr, id, seval, ptr, res_one, resRow, net_one, rlEnv, rlOwn, numCs, rlCs, rlBox, evn])
    refine wcall_slice (sceneC cb) rfl rfl ?_
    rintro r ⟨n2, g, hn2, rfl, hg⟩
    have g3 : g 3 = .sl n2.a n2.l.length n2.cap 1 (psRd n2.l) := hg 3 (by omega)
    simp -implicitDefEqProofs only [evr, id, seval, ptr, res_one, resRow, net_one, rlEnv, rlOwn, numCs, rlCs, rlBox, g3, evn]
    refine ⟨by omega, by omega, hk _ ?_⟩
    simp only [thenK]
    refine ⟨ns.set i ((ns.getD i default).with n2), ⟨by simp, fun n hn => ?_⟩, ?_⟩
    ·rcases List.mem_or_eq_of_mem_set hn with h | h
     ·exact hnok n h
     ·subst h; exact (hnok _ (getD_mem hi)).with hn2
    ·simp only [rlOwn, List.length_set]
     simp -implicitDefEqProofs only [evr, id, seval, ptr, res_one, resRow, net_one, rlEnv, rlOwn, numCs, rlCs, rlBox, evl, evn]
     exact net_set hi
   ·refine Sat.skip ?_
    simp only [thenK]
    refine ⟨ns, ⟨rfl, hnok⟩, ?_⟩
    simp -implicitDefEqProofs only [evr, id, seval, ptr, res_one, resRow, net_one, rlEnv, rlOwn, numCs, rlCs, rlBox, evl, evn]
  intro zs
  rintro ⟨hzl, hzok⟩
  simp only [thenK, rlEnv, rlOwn, numCs]
  rw [← hzl] at hnl hi ⊢
  obtain ⟨n, hn⟩ : ∃ n, n = zs.getD i default := ⟨_, rfl⟩
  have hnk : NetOk n := by rw [hn]; exact hzok _ (getD_mem hi)
  have p0 : netRd zs i 0 = .i .i64 n.v := by rw [hn]; rfl
  have p1 : netRd zs i 1 = .i .u32 n.d := by rw [hn]; rfl
  have p2 : netRd zs i 2 = .i .i64 n.pr := by rw [hn]; rfl
  have p3 : netRd zs i 3 = .sl n.a n.l.length n.cap 1 (psRd n.l) := by rw [hn]; rfl
  have p4 : netRd zs i 4 = .i .u32 n.last := by rw [hn]; rfl
  have hnl1 := hnk.some
  (repeat refine Sat.seq ?_)
  (refine Sat.region_k fun k hk => ?_; simp -implicitDefEqProofs only [evr, id, seval, ptr, res_one, resRow, net_one, rlEnv, rlOwn, numCs, rlCs, rlBox, evn])
  simp only [p0, p1, p2, p3, p4, evr, id, reduceCtorEq, reduceIte, Nat.reduceMul, Nat.reduceAdd, Nat.reduceLT, Nat.reduceLeDiff, Nat.reduceEqDiff, Int.reduceLT, Int.reduceBEq, Int.reduceBNe, Nat.reduceBEq, ptr, res_one, List.append_nil, Int.toNat_zero, Nat.sub_self, Int.reduceToNat, resRow, net_one, rlEnv, rlOwn, numCs, rlCs, rlBox]
  refine ⟨by omega, by omega, ?_⟩
  intro b14
  (refine hk _ ?_; clear hk k; try show Sat _ _ _ _ _)
  (repeat refine Sat.seq ?_)
  (refine Sat.region_k fun k hk => ?_; simp -implicitDefEqProofs only [evr, id, seval, ptr, res_one, resRow, net_one, rlEnv, rlOwn, numCs, rlCs, rlBox, evn])
  refine wcall_plain (nextC cb n.l.length (by omega) (by omega)) (by simp -implicitDefEqProofs only [evr, id, seval, ptr, res_one, resRow, net_one, rlEnv, rlOwn, numCs, rlCs, rlBox, evn]) (by rintro _ ⟨x, rfl, _⟩; exact ok_plain rfl) ?_
  rintro r ⟨x, rfl, hf0, hf1⟩
  obtain ⟨fl, rfl⟩ := Int.eq_ofNat_of_zero_le hf0
  have hfl : fl < n.l.length := by omega
  simp -implicitDefEqProofs only [evr, id, seval, ptr, res_one, resRow, net_one, rlEnv, rlOwn, numCs, rlCs, rlBox, evn]
  (refine hk _ ?_; clear hk k; try show Sat _ _ _ _ _)
  obtain ⟨pq, hpq⟩ : ∃ pq, pq = n.l.getD fl default := ⟨_, rfl⟩
  have hps : psRd n.l fl 0 = .sl pq.a pq.p.length pq.cap 1 (adRd pq.p) := by rw [hpq]; rfl
  have hpok := hnk.ps pq (by rw [hpq]; exact getD_mem hfl)
  have hpl3 := hpok.1
  (repeat refine Sat.seq ?_)
  (refine Sat.region_k fun k hk => ?_; simp -implicitDefEqProofs only [evr, id, seval, ptr, res_one, resRow, net_one, rlEnv, rlOwn, numCs, rlCs, rlBox, evn])
  simp only [hps, evr, id, reduceCtorEq, reduceIte, Nat.reduceMul, Nat.reduceAdd, Nat.reduceLT, Nat.reduceLeDiff, Nat.reduceEqDiff, Int.reduceLT, Int.reduceBEq, Int.reduceBNe, Nat.reduceBEq, ptr, res_one, List.append_nil, Int.toNat_zero, Nat.sub_self, Int.reduceToNat, resRow, net_one, rlEnv, rlOwn, numCs, rlCs, rlBox]
  refine ⟨by omega, ?_⟩
  (refine hk _ ?_; clear hk k; try show Sat _ _ _ _ _)
  (repeat refine Sat.seq ?_)
  (refine Sat.region_k fun k hk => ?_; simp -implicitDefEqProofs only [evr, id, seval, ptr, res_one, resRow, net_one, rlEnv, rlOwn, numCs, rlCs, rlBox, evn])
  refine wcall_plain (nextC cb 40 (by omega) (by omega)) rfl (by rintro _ ⟨x, rfl, _⟩; exact ok_plain rfl) ?_
  rintro r ⟨x40, rfl, hc0, hc1⟩
  simp -implicitDefEqProofs only [evr, id, seval, ptr, res_one, resRow, net_one, rlEnv, rlOwn, numCs, rlCs, rlBox, evn]
  have ew1 : IntKind.i64.wrap (1 + x40) = 1 + x40 := w64 (by omega)
  have ew2 : IntKind.i64.wrap (at1 + (1 + x40)) = at1 + (1 + x40) := w64 (by omega)
  obtain ⟨at2, hat2, hat3, hat4⟩ : ∃ y, IntKind.i64.wrap (at1 + IntKind.i64.wrap (1 + x40)) = y ∧ at1 ≤ y ∧ y ≤ at1 + 40 := ⟨_, rfl, by rw [ew1, ew2]; omega, by rw [ew1, ew2]; omega⟩
  simp only [hat2]
  clear ew1 ew2 hat2
  (refine hk _ ?_; clear hk k; try show Sat _ _ _ _ _)
  (repeat refine Sat.seq ?_)
  refine Sat.atF (ι := Int × Int × Nat) (fun z => ⟨175, (17, .op 4 z.2.2 0) :: (16, .sl pq.a pq.p.length pq.cap 1 (adRd pq.p)) :: (15, .i .i64 fl) :: (14, .op 3 b14 0) :: rlEnv st cb most k1 at2 id2 bn ra rc xs.length na nc zs.length, rlOwn bn na nc zs ra rc xs n0 n1 (rlBox b14 z.2.2 n (rlCs n.v z.1 at2 n.d n.pr fl z.2.1 (.b false) (.b false) 0 0 0 0 0 0))⟩)
   (fun z => (1 ≤ z.2.1 ∧ z.2.1 ≤ pq.p.length + 1) ∧ ((n.v = 0 ∧ z.1 = n0) ∨ (n.v = 1 ∧ z.1 = n1))) ?_ ?_
  ·have e5 : IntKind.i64.wrap ((pq.p.length : Int) + 1) = (pq.p.length : Int) + 1 := w64 (by omega)
   rcases (show n.v = 0 ∨ n.v = 1 by have := hnk.v; omega) with hv | hv
   ·simp only [hv]
    (refine Sat.region_tree (.keep [0, 1, 3, 4, 8, 9, 10, 12, 13, 15, 16, 17, 18, 19, 2, 5, 11, 14, 6, 7] [20, 21, 22, 23] (.alt 20 (.free 21 (.free 22 (.one 23 (.one 24 .done)))) (.alt 23 (.one 20 (.one 21 (.one 22 (.one 24 .done)))) .none))) (by kernel_rfl) (by kernel_rfl) (fun _ _ h => h) fun k hk => ?_; simp only [WOT, List.map_cons, List.map_nil, List.getD_cons_zero, List.getD_cons_succ]; simp -implicitDefEqProofs only [evr, id, reduceCtorEq, reduceIte, Nat.reduceMul, Nat.reduceAdd, Nat.reduceLT, Nat.reduceLeDiff, Nat.reduceEqDiff, Int.reduceLT, Int.reduceBEq, Int.reduceBNe, Nat.reduceBEq, ptr, res_one, Int.reduceToNat, resRow, net_one, rlEnv, rlOwn, numCs, rlCs, rlBox, WOT, evn])
    simp -implicitDefEqProofs only [evr, id, reduceCtorEq, reduceIte, Nat.reduceMul, Nat.reduceAdd, Nat.reduceLT, Nat.reduceLeDiff, Nat.reduceEqDiff, Int.reduceLT, Int.reduceBEq, Int.reduceBNe, Nat.reduceBEq, ptr, res_one, Int.reduceToNat, resRow, net_one, rlEnv, rlOwn, numCs, rlCs, rlBox, e5, evn]
    refine ⟨by omega, ?_, ?_⟩
    ·skip
     refine wcall_plain (nextC cb ((pq.p.length : Int) + 1) (by omega) (by omega)) rfl (by rintro _ ⟨x, rfl, _⟩; exact ok_plain rfl) ?_
     rintro r ⟨x3, rfl, g0, g1⟩
     have e6 : IntKind.i64.wrap (1 + x3) = 1 + x3 := w64 (by omega)
     simp -implicitDefEqProofs only [evr, id, seval, ptr, res_one, resRow, net_one, rlEnv, rlOwn, numCs, rlCs, rlBox, e6, evn]
     intro b17
     refine hk _ ?_
     simp only [thenK]
     refine ⟨(n0, 1 + x3, b17), ⟨⟨by simp only; omega, by simp only; omega⟩, .inl ⟨trivial, rfl⟩⟩, ?_⟩
     simp -implicitDefEqProofs only [evr, id, seval, ptr, res_one, resRow, net_one, rlEnv, rlOwn, numCs, rlCs, rlBox, evl, evn]
     rw [hv]
    ·intro b17
     refine wcall_plain (nextC cb ((pq.p.length : Int) + 1) (by omega) (by omega)) rfl (by rintro _ ⟨x, rfl, _⟩; exact ok_plain rfl) ?_
     rintro r ⟨x3, rfl, g0, g1⟩
     have e6 : IntKind.i64.wrap (1 + x3) = 1 + x3 := w64 (by omega)
     simp -implicitDefEqProofs only [evr, id, seval, ptr, res_one, resRow, net_one, rlEnv, rlOwn, numCs, rlCs, rlBox, e6, evn]
     refine hk _ ?_
     simp only [thenK]
     refine ⟨(n0, 1 + x3, b17), ⟨⟨by simp only; omega, by simp only; omega⟩, .inl ⟨trivial, rfl⟩⟩, ?_⟩
     simp -implicitDefEqProofs only [evr, id, seval, ptr, res_one, resRow, net_one, rlEnv, rlOwn, numCs, rlCs, rlBox, evl, evn]
     rw [hv]
   ·simp only [hv]
    (refine Sat.region_tree (.keep [0, 1, 3, 4, 8, 9, 10, 12, 13, 15, 16, 17, 18, 19, 2, 5, 11, 14, 6, 7] [20, 21, 22, 23] (.alt 20 (.free 21 (.free 22 (.one 23 (.one 24 .done)))) (.alt 23 (.one 20 (.one 21 (.one 22 (.one 24 .done)))) .none))) (by kernel_rfl) (by kernel_rfl) (fun _ _ h => h) fun k hk => ?_; simp only [WOT, List.map_cons, List.map_nil, List.getD_cons_zero, List.getD_cons_succ]; simp -implicitDefEqProofs only [evr, id, reduceCtorEq, reduceIte, Nat.reduceMul, Nat.reduceAdd, Nat.reduceLT, Nat.reduceLeDiff, Nat.reduceEqDiff, Int.reduceLT, Int.reduceBEq, Int.reduceBNe, Nat.reduceBEq, ptr, res_one, Int.reduceToNat, resRow, net_one, rlEnv, rlOwn, numCs, rlCs, rlBox, WOT, evn])
    simp -implicitDefEqProofs only [evr, id, reduceCtorEq, reduceIte, Nat.reduceMul, Nat.reduceAdd, Nat.reduceLT, Nat.reduceLeDiff, Nat.reduceEqDiff, Int.reduceLT, Int.reduceBEq, Int.reduceBNe, Nat.reduceBEq, ptr, res_one, Int.reduceToNat, resRow, net_one, rlEnv, rlOwn, numCs, rlCs, rlBox, e5, evn]
    refine ⟨by omega, ?_, ?_⟩
    ·skip
     refine wcall_plain (nextC cb ((pq.p.length : Int) + 1) (by omega) (by omega)) rfl (by rintro _ ⟨x, rfl, _⟩; exact ok_plain rfl) ?_
     rintro r ⟨x3, rfl, g0, g1⟩
     have e6 : IntKind.i64.wrap (1 + x3) = 1 + x3 := w64 (by omega)
     simp -implicitDefEqProofs only [evr, id, seval, ptr, res_one, resRow, net_one, rlEnv, rlOwn, numCs, rlCs, rlBox, e6, evn]
     intro b17
     refine hk _ ?_
     simp only [thenK]
     refine ⟨(n1, 1 + x3, b17), ⟨⟨by simp only; omega, by simp only; omega⟩, .inr ⟨trivial, rfl⟩⟩, ?_⟩
     simp -implicitDefEqProofs only [evr, id, seval, ptr, res_one, resRow, net_one, rlEnv, rlOwn, numCs, rlCs, rlBox, evl, evn]
     rw [hv]
    ·intro b17
     refine wcall_plain (nextC cb ((pq.p.length : Int) + 1) (by omega) (by omega)) rfl (by rintro _ ⟨x, rfl, _⟩; exact ok_plain rfl) ?_
     rintro r ⟨x3, rfl, g0, g1⟩
     have e6 : IntKind.i64.wrap (1 + x3) = 1 + x3 := w64 (by omega)
     simp -implicitDefEqProofs only [evr, id, seval, ptr, res_one, resRow, net_one, rlEnv, rlOwn, numCs, rlCs, rlBox, e6, evn]
     refine hk _ ?_
     simp only [thenK]
     refine ⟨(n1, 1 + x3, b17), ⟨⟨by simp only; omega, by simp only; omega⟩, .inr ⟨trivial, rfl⟩⟩, ?_⟩
     simp -implicitDefEqProofs only [evr, id, seval, ptr, res_one, resRow, net_one, rlEnv, rlOwn, numCs, rlCs, rlBox, evl, evn]
     rw [hv]
  rintro ⟨num, ttl, b17⟩ ⟨httl, hnum⟩
  simp only [thenK, rlEnv, rlOwn, numCs, rlCs, rlBox] at httl hnum ⊢
  (repeat refine Sat.seq ?_)
  refine Sat.atF (ι := Nat × Nat) (fun z => ⟨175, (17, .op 4 b17 0) :: (16, .sl pq.a pq.p.length pq.cap 1 (adRd pq.p)) :: (15, .i .i64 fl) :: (14, .op 3 b14 0) :: rlEnv st cb most k1 at2 id2 bn ra rc xs.length na nc zs.length, rlOwn bn na nc zs ra rc xs z.1 z.2 (rlBox b14 b17 n (rlCs n.v num at2 n.d n.pr fl ttl (.b false) (.b false) 0 0 0 0 0 0))⟩)
   (fun z => (n.v = 0 ∧ num = n0 ∧ z.1 = n0 + 1 ∧ z.2 = n1) ∨ (n.v = 1 ∧ num = n1 ∧ z.1 = n0 ∧ z.2 = n1 + 1)) ?_ ?_
  ·have e7 : IntKind.i64.wrap ((n0 : Int) + 1) = ((n0 + 1 : Nat) : Int) := by rw [w64 (by omega)]; omega
   have e8 : IntKind.i64.wrap ((n1 : Int) + 1) = ((n1 + 1 : Nat) : Int) := by rw [w64 (by omega)]; omega
   rcases hnum with ⟨hv, hnm⟩ | ⟨hv, hnm⟩
   ·simp only [hv]
    (refine Sat.region_k fun k hk => ?_; simp -implicitDefEqProofs only [evr, id, reduceCtorEq, reduceIte, Nat.reduceMul, Nat.reduceAdd, Nat.reduceLT, Nat.reduceLeDiff, Nat.reduceEqDiff, Int.reduceLT, Int.reduceBEq, Int.reduceBNe, Nat.reduceBEq, ptr, res_one, Int.reduceToNat, resRow, net_one, rlEnv, rlOwn, numCs, rlCs, rlBox, evn])
    simp only [e7]
    refine ⟨by omega, by omega, hk _ ?_⟩
    simp only [thenK]
    refine ⟨(n0 + 1, n1), .inl ⟨trivial, hnm, rfl, rfl⟩, ?_⟩
    simp -implicitDefEqProofs only [evr, id, seval, ptr, res_one, resRow, net_one, rlEnv, rlOwn, numCs, rlCs, rlBox, evl, evn]
    simp only [hv]
   ·simp only [hv]
    (refine Sat.region_k fun k hk => ?_; simp -implicitDefEqProofs only [evr, id, reduceCtorEq, reduceIte, Nat.reduceMul, Nat.reduceAdd, Nat.reduceLT, Nat.reduceLeDiff, Nat.reduceEqDiff, Int.reduceLT, Int.reduceBEq, Int.reduceBNe, Nat.reduceBEq, ptr, res_one, Int.reduceToNat, resRow, net_one, rlEnv, rlOwn, numCs, rlCs, rlBox, evn])
    simp only [e8]
    refine ⟨by omega, by omega, hk _ ?_⟩
    simp only [thenK]
    refine ⟨(n0, n1 + 1), .inr ⟨trivial, hnm, rfl, rfl⟩, ?_⟩
    simp -implicitDefEqProofs only [evr, id, seval, ptr, res_one, resRow, net_one, rlEnv, rlOwn, numCs, rlCs, rlBox, evl, evn]
    simp only [hv]
  rintro ⟨m0, m1⟩ hnew
  simp only [thenK, rlEnv, rlOwn, numCs, rlCs, rlBox] at hnew ⊢
  (repeat refine Sat.seq ?_)
  refine Sat.atF (ι := Int) (fun z => ⟨175, (17, .op 4 b17 0) :: (16, .sl pq.a pq.p.length pq.cap 1 (adRd pq.p)) :: (15, .i .i64 fl) :: (14, .op 3 b14 0) :: rlEnv st cb most k1 at2 id2 bn ra rc xs.length na nc zs.length, rlOwn bn na nc zs ra rc xs m0 m1 (rlBox b14 b17 n (rlCs n.v num at2 n.d n.pr fl ttl (.b false) (.b false) z 0 0 0 0 0))⟩) (fun z => at2 ≤ z ∧ z ≤ at2 + 23) ?_ ?_
  ·(refine Sat.region_tree (.keep [0, 2, 6, 1, 3, 4, 5] [7] (.one 7 (.one 8 (.one 9 (.one 10 .done))))) (by kernel_rfl) (by kernel_rfl) (fun _ _ h => h) fun k hk => ?_; simp only [WOT, List.map_cons, List.map_nil, List.getD_cons_zero, List.getD_cons_succ]; simp -implicitDefEqProofs only [evr, id, seval, ptr, res_one, resRow, net_one, rlEnv, rlOwn, numCs, rlCs, rlBox, WOT, evn])
   refine wcall_plain (nextC cb 4 (by omega) (by omega)) rfl (by rintro _ ⟨x, rfl, _⟩; exact ok_plain rfl) ?_
   rintro r ⟨x4, rfl, hd0, hd1⟩
   have ew3 : IntKind.i64.wrap (5 * ttl) = 5 * ttl := w64 (by omega)
   have ew4 : IntKind.i64.wrap (at2 + 5 * ttl) = at2 + 5 * ttl := w64 (by omega)
   have ew5 : IntKind.i64.wrap (at2 + 5 * ttl + x4) = at2 + 5 * ttl + x4 := w64 (by omega)
   simp -implicitDefEqProofs only [evr, id, seval, ptr, res_one, resRow, net_one, rlEnv, rlOwn, numCs, rlCs, rlBox, evn]
   refine hk _ ?_
   simp only [thenK]
   refine ⟨IntKind.i64.wrap (IntKind.i64.wrap (at2 + IntKind.i64.wrap (5 * ttl)) + x4), ⟨by rw [ew3, ew4, ew5]; omega, by rw [ew3, ew4, ew5]; omega⟩, ?_⟩
   simp -implicitDefEqProofs only [evr, id, seval, ptr, res_one, resRow, net_one, rlEnv, rlOwn, numCs, rlCs, rlBox, evl, evn]
  rintro back ⟨hbk0, hbk1⟩
  simp only [thenK, rlEnv, rlOwn, numCs, rlCs, rlBox]
  (repeat refine Sat.seq ?_)
  (refine Sat.region_k fun k hk => ?_; simp -implicitDefEqProofs only [evr, id, seval, ptr, res_one, resRow, net_one, rlEnv, rlOwn, numCs, rlCs, rlBox, evn])
  refine wcall_plain (nextC cb 5 (by omega) (by omega)) rfl (by rintro _ ⟨x, rfl, _⟩; exact ok_plain rfl) ?_
  rintro r ⟨x5, rfl, hq0, hq1⟩
  simp -implicitDefEqProofs only [evr, id, seval, ptr, res_one, resRow, net_one, rlEnv, rlOwn, numCs, rlCs, rlBox, evn]
  have ew6 : IntKind.i64.wrap (1 + x5) = 1 + x5 := w64 (by omega)
  have ew7 : IntKind.i64.wrap (id2 + (1 + x5)) = id2 + (1 + x5) := w64 (by omega)
  obtain ⟨id3, hid5, hid6, hid7⟩ : ∃ y, IntKind.i64.wrap (id2 + IntKind.i64.wrap (1 + x5)) = y ∧ 0 ≤ y ∧ y ≤ id2 + 5 := ⟨_, rfl, by rw [ew6, ew7]; omega, by rw [ew6, ew7]; omega⟩
  simp only [hid5]
  clear ew6 ew7 hid5
  (refine hk _ ?_; clear hk k; try show Sat _ _ _ _ _)
  (repeat refine Sat.seq ?_)
  (refine Sat.region_k fun k hk => ?_; simp -implicitDefEqProofs only [evr, id, seval, ptr, res_one, resRow, net_one, rlEnv, rlOwn, numCs, rlCs, rlBox, evn]; refine hk _ ?_; clear hk k; try show Sat _ _ _ _ _)
  (repeat refine Sat.seq ?_)
  (refine Sat.region_k fun k hk => ?_; simp -implicitDefEqProofs only [evr, id, seval, ptr, res_one, resRow, net_one, rlEnv, rlOwn, numCs, rlCs, rlBox, evn]; refine hk _ ?_; clear hk k; try show Sat _ _ _ _ _)
  (repeat refine Sat.seq ?_)
  refine Sat.atF (ι := Int) (fun z => ⟨175, (18, .i .u32 z) :: (17, .op 4 b17 0) :: (16, .sl pq.a pq.p.length pq.cap 1 (adRd pq.p)) :: (15, .i .i64 fl) :: (14, .op 3 b14 0) :: rlEnv st cb most k1 at2 id3 bn ra rc xs.length na nc zs.length, rlOwn bn na nc zs ra rc xs m0 m1 (rlBox b14 b17 n (rlCs n.v num at2 n.d n.pr fl ttl (.b false) (.b false) back 0 0 0 0 0))⟩) InA ?_ ?_
  ·refine Sat.cond_b rfl (fun h => ?_) (fun h => ?_)
   ·have h3 : ttl ≤ pq.p.length := by simpa using h
    have e9 : IntKind.i64.wrap (ttl - 1) = ttl - 1 := w64 (by omega)
    (refine Sat.region_k fun k hk => ?_; simp -implicitDefEqProofs only [evr, id, seval, ptr, res_one, resRow, net_one, rlEnv, rlOwn, numCs, rlCs, rlBox, evn])
    simp only [e9]
    refine ⟨by omega, hk _ ?_⟩
    simp only [thenK]
    refine ⟨pq.p.getD (ttl - 1).toNat 0, hpok.2 _ (getD_mem (by omega)), ?_⟩
    simp -implicitDefEqProofs only [evr, id, seval, ptr, res_one, resRow, net_one, rlEnv, rlOwn, numCs, rlCs, rlBox, evl, evn]
    rfl
   ·refine Sat.skip ?_
    simp only [thenK]
    refine ⟨n.last, hnk.last, ?_⟩
    simp -implicitDefEqProofs only [evr, id, seval, ptr, res_one, resRow, net_one, rlEnv, rlOwn, numCs, rlCs, rlBox, evl, evn]
  intro fr hfr
  simp only [thenK, rlEnv, rlOwn, numCs, rlCs, rlBox]
  (repeat refine Sat.seq ?_)
  refine Sat.atF (ι := Bool) (fun z => ⟨175, (142, .b z) :: (18, .i .u32 fr) :: (17, .op 4 b17 0) :: (16, .sl pq.a pq.p.length pq.cap 1 (adRd pq.p)) :: (15, .i .i64 fl) :: (14, .op 3 b14 0) :: rlEnv st cb most k1 at2 id3 bn ra rc xs.length na nc zs.length, rlOwn bn na nc zs ra rc xs m0 m1 (rlBox b14 b17 n (rlCs n.v num at2 n.d n.pr fl ttl (.b false) (.b false) back 0 0 0 0 0))⟩) (fun z => z = true → fr ≠ 0) ?_ ?_
  ·(refine Sat.region_k fun k hk => ?_; simp -implicitDefEqProofs only [evr, id, seval, ptr, res_one, resRow, net_one, rlEnv, rlOwn, numCs, rlCs, rlBox, evn])
   refine ⟨fun g1 => ?_, fun g1 => hk _ ?_⟩
   ·refine wcall_plain (boolC cb 5 (by decide) (by decide)) rfl plain_bool ?_
    rintro r ⟨q5, rfl⟩
    simp -implicitDefEqProofs only [evr, id, seval, ptr, res_one, resRow, net_one, rlEnv, rlOwn, numCs, rlCs, rlBox, evn]
    refine hk _ ?_
    simp only [thenK]
    refine ⟨!q5, fun _ => (by simpa using g1), ?_⟩
    simp -implicitDefEqProofs only [evr, id, seval, ptr, res_one, resRow, net_one, rlEnv, rlOwn, numCs, rlCs, rlBox, evl, evn]
   ·simp only [thenK]
    refine ⟨false, fun h9 => (by cases h9), ?_⟩
    simp -implicitDefEqProofs only [evr, id, seval, ptr, res_one, resRow, net_one, rlEnv, rlOwn, numCs, rlCs, rlBox, evl, evn]
  intro ba hba
  simp only [thenK, rlEnv, rlOwn, numCs, rlCs, rlBox]
  (repeat refine Sat.seq ?_)
  refine Sat.atF (ι := SV × SV × Int × Int × Int × Int × Int) (fun z => ⟨175, (17, .op 4 b17 0) :: (16, .sl pq.a pq.p.length pq.cap 1 (adRd pq.p)) :: (15, .i .i64 fl) :: (14, .op 3 b14 0) :: rlEnv st cb most k1 at2 id3 bn ra rc xs.length na nc zs.length, rlOwn bn na nc zs ra rc xs m0 m1 (rlBox b14 b17 n (rlCs n.v num at2 n.d n.pr fl ttl (z.1) (z.2.1) back z.2.2.1 z.2.2.2.1 z.2.2.2.2.1 z.2.2.2.2.2.1 z.2.2.2.2.2.2))⟩) (fun z => ∃ b8 b9, sim z.1 (.b b8) ∧ sim z.2.1 (.b b9) ∧ oneS z.1 = true ∧ oneS z.2.1 = true ∧ InA z.2.2.1 ∧ AnsOk b8 b9 z.2.2.1 z.2.2.2.1 z.2.2.2.2.1 z.2.2.2.2.2.1 z.2.2.2.2.2.2) ?_ ?_
  ·refine Sat.cond_b rfl (fun h => ?_) (fun h => ?_)
   ·have hba1 : ba = true := h
    (repeat refine Sat.seq ?_)
    (refine Sat.region_k fun k hk => ?_; simp -implicitDefEqProofs only [evr, id, seval, ptr, res_one, resRow, net_one, rlEnv, rlOwn, numCs, rlCs, rlBox, evn])
    refine wcall_plain (boolC cb 30 (by decide) (by decide)) rfl plain_bool ?_
    rintro r ⟨q30, rfl⟩
    simp -implicitDefEqProofs only [evr, id, seval, ptr, res_one, resRow, net_one, rlEnv, rlOwn, numCs, rlCs, rlBox, evn]
    (refine hk _ ?_; clear hk k; try show Sat _ _ _ _ _)
    (repeat refine Sat.seq ?_)
    (refine Sat.region_k fun k hk => ?_; simp -implicitDefEqProofs only [evr, id, reduceCtorEq, reduceIte, Nat.reduceMul, Nat.reduceAdd, Nat.reduceLT, Nat.reduceLeDiff, Nat.reduceEqDiff, Int.reduceLT, Int.reduceBEq, Int.reduceBNe, Nat.reduceBEq, ptr, res_one, Int.reduceToNat, resRow, net_one, rlEnv, rlOwn, numCs, rlCs, rlBox, evn])
    obtain ⟨id4, hid8, hid9, hid10⟩ : ∃ y, id3.tmod 65536 = y ∧ 0 ≤ y ∧ y ≤ 65535 := ⟨_, rfl, Int.tmod_nonneg _ hid6, Int.le_of_lt_add_one (Int.tmod_lt_of_pos _ (by decide))⟩
    simp only [hid8]
    clear hid8
    refine ⟨by decide, ?_⟩
    (refine hk _ ?_; clear hk k; try show Sat _ _ _ _ _)
    (repeat refine Sat.seq ?_)
    (refine Sat.region_k fun k hk => ?_; simp -implicitDefEqProofs only [evr, id, seval, ptr, res_one, resRow, net_one, rlEnv, rlOwn, numCs, rlCs, rlBox, evn]; refine hk _ ?_; clear hk k; try show Sat _ _ _ _ _)
    (repeat refine Sat.seq ?_)
    refine Sat.atF (ι := Int) (fun z => ⟨175, (17, .op 4 b17 0) :: (16, .sl pq.a pq.p.length pq.cap 1 (adRd pq.p)) :: (15, .i .i64 fl) :: (14, .op 3 b14 0) :: rlEnv st cb most k1 at2 id3 bn ra rc xs.length na nc zs.length, rlOwn bn na nc zs ra rc xs m0 m1 (rlBox b14 b17 n (rlCs n.v num at2 n.d n.pr fl ttl (.tt) (.b q30) back fr z 60 id4 1))⟩) (fun z => 1 ≤ z ∧ z ≤ 5) ?_ ?_
    ·refine Sat.cond_b rfl (fun h => ?_) (fun h => ?_)
     ·(refine Sat.region_k fun k hk => ?_; simp -implicitDefEqProofs only [evr, id, seval, ptr, res_one, resRow, net_one, rlEnv, rlOwn, numCs, rlCs, rlBox, evn])
      intro bp
      refine wcall_plain (pickI cb bp [3, 3, 2] (fun x => 1 ≤ x ∧ x ≤ 5) (by decide) (by decide) (by decide)) (by simp -implicitDefEqProofs only [evr, id, seval, ptr, res_one, resRow, net_one, rlEnv, rlOwn, numCs, rlCs, rlBox, evn]) plain_pick ?_
      rintro r ⟨x, rfl, hxp⟩
      simp -implicitDefEqProofs only [evr, id, seval, ptr, res_one, resRow, net_one, rlEnv, rlOwn, numCs, rlCs, rlBox, evn]
      refine hk _ ?_
      simp only [thenK]
      refine ⟨x, hxp, ?_⟩
      simp -implicitDefEqProofs only [evr, id, seval, ptr, res_one, resRow, net_one, rlEnv, rlOwn, numCs, rlCs, rlBox, evl, evn]
     ·refine Sat.skip ?_
      simp only [thenK]
      refine ⟨1, ⟨by decide, by decide⟩, ?_⟩
      simp -implicitDefEqProofs only [evr, id, seval, ptr, res_one, resRow, net_one, rlEnv, rlOwn, numCs, rlCs, rlBox, evl, evn]
    rintro kind hkd
    simp only [thenK, rlEnv, rlOwn, numCs, rlCs, rlBox]
    (repeat refine Sat.seq ?_)
    (refine Sat.region_k fun k hk => ?_; simp -implicitDefEqProofs only [evr, id, seval, ptr, res_one, resRow, net_one, rlEnv, rlOwn, numCs, rlCs, rlBox, evn])
    refine wcall_plain (boolC cb 5 (by decide) (by decide)) rfl plain_bool ?_
    rintro r ⟨q6, rfl⟩
    simp -implicitDefEqProofs only [evr, id, seval, ptr, res_one, resRow, net_one, rlEnv, rlOwn, numCs, rlCs, rlBox, evn]
    (refine hk _ ?_; clear hk k; try show Sat _ _ _ _ _)
    refine Sat.cond_b rfl (fun h => ?_) (fun h => ?_)
    ·(refine Sat.region_k fun k hk => ?_; simp -implicitDefEqProofs only [evr, id, seval, ptr, res_one, resRow, net_one, rlEnv, rlOwn, numCs, rlCs, rlBox, evn])
     refine wcall_plain (nextC cb 65536 (by omega) (by omega)) rfl (by rintro _ ⟨x, rfl, _⟩; exact ok_plain rfl) ?_
     rintro r ⟨x6, rfl, hg0, hg1⟩
     simp -implicitDefEqProofs only [evr, id, seval, ptr, res_one, resRow, net_one, rlEnv, rlOwn, numCs, rlCs, rlBox, evn]
     refine hk _ ?_
     simp only [thenK]
     refine ⟨(.tt, .b q30, fr, kind, 60, x6, 1), ⟨true, q30, sim_tt, sim_refl _, rfl, rfl, hfr, .inl ⟨rfl, hba hba1, hkd, rfl, ⟨hg0, by show x6 ≤ 65535; omega⟩, rfl⟩⟩, ?_⟩
     simp -implicitDefEqProofs only [evr, id, seval, ptr, res_one, resRow, net_one, rlEnv, rlOwn, numCs, rlCs, rlBox, evl, evn]
    ·refine Sat.skip ?_
     simp only [thenK]
     refine ⟨(.tt, .b q30, fr, kind, 60, id4, 1), ⟨true, q30, sim_tt, sim_refl _, rfl, rfl, hfr, .inl ⟨rfl, hba hba1, hkd, rfl, ⟨hid9, hid10⟩, rfl⟩⟩, ?_⟩
     simp -implicitDefEqProofs only [evr, id, seval, ptr, res_one, resRow, net_one, rlEnv, rlOwn, numCs, rlCs, rlBox, evl, evn]
   ·refine Sat.skip ?_
    simp only [thenK]
    refine ⟨(.b false, .b false, 0, 0, 0, 0, 0), ⟨false, false, sim_refl _, sim_refl _, rfl, rfl, ⟨by decide, by decide⟩, .inr ⟨rfl, rfl, rfl, rfl, rfl, rfl, rfl⟩⟩, ?_⟩
    simp -implicitDefEqProofs only [evr, id, seval, ptr, res_one, resRow, net_one, rlEnv, rlOwn, numCs, rlCs, rlBox, evl, evn]
  rintro ⟨s8, s9, fr2, kind, left, idv, quo⟩ ⟨b8, b9, hs8, hs9, ho8, ho9, hfr2, hans⟩
  simp only [thenK, rlEnv, rlOwn, numCs, rlCs, rlBox] at hs8 hs9 ho8 ho9 hfr2 hans ⊢
  (repeat refine Sat.seq ?_)
  (refine Sat.region_k fun k hk => ?_; simp -implicitDefEqProofs only [evr, id, seval, ptr, res_one, resRow, net_one, rlEnv, rlOwn, numCs, rlCs, rlBox, evn]; refine hk _ ?_; clear hk k; try show Sat _ _ _ _ _)
  (repeat refine Sat.seq ?_)
  (refine Sat.region_k fun k hk => ?_; simp -implicitDefEqProofs only [evr, id, seval, ptr, res_one, resRow, net_one, rlEnv, rlOwn, numCs, rlCs, rlBox, evn])
  simp -implicitDefEqProofs only [evr, id, seval, ptr, res_one, resRow, net_one, rlEnv, rlOwn, numCs, rlCs, rlBox, ho8, ho9, evn]
  intro b18
  refine ⟨⟨by unfold maxLen; omega, by omega⟩, fun a2 cap2 => ?_⟩
  (refine hk _ ?_; clear hk k; try show Sat _ _ _ _ _)
  obtain ⟨r, hr⟩ : ∃ r : Res, r = ⟨n.v, 0, num, at2, n.d, n.pr, fl, ttl, b8, b9, back, fr2, kind, 0, left, idv, quo⟩ := ⟨_, rfl⟩
  refine Sat.reread 2 (resRd (xs ++ [r]).toArray) rfl ?_ ?_
  ·refine res_appS ?_
   subst hr
   simp only [Res.cs, simA]
   refine ⟨?_, ?_, ?_, ?_, ?_, ?_, ?_, ?_, ?_, ?_, ?_, ?_, ?_, ?_, ?_, ?_, ?_, trivial⟩ <;> first | exact sim_refl _ | exact hs8 | exact hs9
  simp -implicitDefEqProofs only [evr, id, seval, ptr, res_one, resRow, net_one, rlEnv, rlOwn, numCs, rlCs, rlBox, evn]
  refine Sat.region_k fun k hk => ?_
  simp -implicitDefEqProofs only [evr, id, seval, ptr, res_one, resRow, net_one, rlEnv, rlOwn, numCs, rlCs, rlBox, e2, evn]
  refine hk _ ?_
  simp only [thenK, blockK]
  have hrg : RgR r := by subst hr; exact ⟨w64_inA hnk.d, w64_inA hfr2⟩
  have hnum0 : 0 ≤ num ∧ num < 1000 := by rcases hnew with ⟨g1, g2, g3, g4⟩ | ⟨g1, g2, g3, g4⟩ <;> omega
  have hnv := hnk.v
  have hval : validR r = true := by
   subst hr
   exact rlt_valid hnk.v hnum0 ⟨by omega, by omega, by omega⟩ hnk.d0 hnk.pr ⟨by omega, by omega⟩ ⟨by omega, by omega⟩ hans
  have hI2 : RltI (xs ++ [r]) m0 m1 := by
   rcases hnew with ⟨g1, g2, g3, g4⟩ | ⟨g1, g2, g3, g4⟩
   ·rw [g3, g4]; exact hI.snoc0 hrg hval (by subst hr; exact g1) (by subst hr; exact g2)
   ·rw [g3, g4]; exact hI.snoc1 hrg hval (by subst hr; exact g1) (by subst hr; exact g2)
  refine ⟨⟨k1 - 1, back, id3, na, nc, zs, a2, cap2, xs ++ [r], m0, m1⟩, ⟨by simp; omega, hnl, hzok, hI2, by simp; omega, by simp; omega, ⟨by simp only; omega, by simp only [List.length_append, List.length_singleton]; omega⟩, ⟨by simp only; omega, by simp only [List.length_append, List.length_singleton]; omega⟩⟩, by simp only; omega, ?_⟩
  simp only [List.length_append, List.length_singleton]
  simp -implicitDefEqProofs only [evr, id, seval, ptr, res_one, resRow, net_one, rlEnv, rlOwn, numCs, rlCs, rlBox, evl, evn]
 ·have h0 : k1 = 0 := by simp only [decide_eq_false_iff_not] at h; omega
  refine Sat.exit ?_
  simp only [thenK, blockK, reduceIte]
  (repeat refine Sat.seq ?_)
  (refine Sat.region_k fun k hk => ?_; simp -implicitDefEqProofs only [evr, id, seval, ptr, res_one, resRow, net_one, rlEnv, rlOwn, numCs, rlCs, rlBox, evn]; refine hk _ ?_; clear hk k; try show Sat _ _ _ _ _)
  refine Sat.ret ?_
  simp only [Try.results9, evr, id, reduceCtorEq, reduceIte, Nat.reduceMul, Nat.reduceAdd, Nat.reduceLT, Nat.reduceLeDiff, Nat.reduceEqDiff, Int.reduceLT, Int.reduceBEq, Int.reduceBNe, Nat.reduceBEq, ptr, res_one, List.append_nil, Int.toNat_zero, Nat.sub_self, Int.reduceToNat, resRow, net_one, rlEnv, rlOwn, numCs, rlCs, rlBox, retN, retNK, newRow]
  exact ⟨⟨rfl, rfl, rfl⟩, ra, rc, xs, n0, n1, hI, by omega, rfl⟩
end Go.Proofs.Ytepbdjpcoleegaa
