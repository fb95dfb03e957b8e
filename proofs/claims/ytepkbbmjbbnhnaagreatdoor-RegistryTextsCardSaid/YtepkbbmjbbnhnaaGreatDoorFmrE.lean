/- registry.Format, by the evaluator. -/
import Derived.Test.YtepkbbmjbbnhnaaGreatDoorBlsE
import Derived.Test.YtepkbbmjbbnhnaaGreatDoorAtfE
import Derived.Test.YtepkbbmjbbnhnaaGreatDoorRgvE
import Derived.Lib.ItoaLen
set_option linter.unusedSimpArgs false
set_option linter.unusedVariables false
namespace Go.Proofs.YtepkbbmjbbnhnaaGreatDoor
open Go.Sort Eng
def fmtN (n : Int) : List UInt8 := 32 :: Lib.itoa n
def fmtE (e : Ent) : List UInt8 := fmtP e.pr ++ fmtN e.prov ++ fmtN e.from_ ++ fmtN e.to_ ++ [10]
def fmtR (es : List Ent) : List UInt8 := es.flatMap fmtE
theorem fmtR_take (es : List Ent) (i : Nat) (h : i < es.length) : fmtR (es.take (i + 1)) = fmtR (es.take i) ++ fmtE (es.getD i default) := by
  rw [List.take_succ_eq_append_getElem h, fmtR, List.flatMap_append, getD_lt h]
  simp [fmtR]
theorem itoa_len {n : Int} (h0 : 0 ≤ n) (h1 : n ≤ 1125899906842624) : (Lib.itoa n).length ≤ 21 ∧ Lib.itoa n ≠ [] := by
  refine ⟨Lib.itoa_length_le n (by omega) (by omega), ?_⟩
  unfold Lib.itoa
  rw [if_neg (by omega)]
  intro h
  have h2 := Lib.decDigits_length n.toNat
  have h3 := Lib.nDigits_pos n.toNat
  rw [h] at h2
  simp at h2
  omega
theorem fmtP_len (p : Prf) : (fmtP p).length ≤ 25 := by
  unfold fmtP
  split
  · rename_i h
    obtain ⟨h1, h2, _⟩ := vld_iff.1 h
    have h3 := fmt_short p.addr
    have h4 := dig_len ⟨p.len.toNat, by omega⟩
    simp only [List.length_append, List.length_cons]
    simp only at h4
    omega
  · simp
theorem fmtP_ne {p : Prf} (h : vld p = true) : fmtP p ≠ [] := by
  unfold fmtP
  rw [if_pos h]
  simp
theorem fmtE_len {e : Ent} (h : EntOk e) : (fmtE e).length ≤ 100 := by
  have h1 := (itoa_len (n := e.prov) (by have := h.2.1; omega) (by have := h.2.2.1; omega)).1
  have h2 := (itoa_len (n := e.from_) h.2.2.2.1 (by have := h.2.2.2.2; omega)).1
  have h3 := (itoa_len (n := e.to_) (by have := h.2.2.2; omega) h.2.2.2.2.2).1
  have h4 := fmtP_len e.pr
  unfold fmtE fmtN
  simp only [List.length_append, List.length_cons, List.length_nil]
  omega
theorem fmtR_len : ∀ {es : List Ent}, (∀ e ∈ es, EntOk e) → (fmtR es).length ≤ 100 * es.length
  | [], _ => by simp [fmtR]
  | e :: es, h => by
    have h1 := fmtR_len (es := es) fun x hx => h x (List.mem_cons_of_mem _ hx)
    have h2 := fmtE_len (h e List.mem_cons_self)
    unfold fmtR at h1 ⊢
    rw [List.flatMap_cons, List.length_append, List.length_cons]
    omega
def fmtV (es : List Ent) : List UInt8 × Int := if RegOk es then (fmtR es, 0) else ([], 1)
def numsE (e : Ent) (j : Nat) : Int := [e.prov, e.from_, e.to_].getD j 0
def fmtK (e : Ent) : Nat → List UInt8
  | 0 => fmtP e.pr
  | j + 1 => fmtK e j ++ fmtN (numsE e j)
set_option maxRecDepth 100000 in
theorem formatRC (ad : Option Addr) (cap : Nat) (es : List Ent) (h : esOk es) : Contract FrA Tryz.prog 31 [regS ad cap es] (fun r => r = tupL [sB (fmtV es).1, .i .i64 (fmtV es).2]) := by
  refine contract_of Tryz.func31 rfl (by kernel_rfl) ?_
  simp only [Tryz.ntmps31, argEnv, regS]
  (repeat refine Sat.seq ?_)
  (refine Sat.region_k fun k hk => ?_; simp -implicitDefEqProofs only [evr, id, seval, ent0, ent1, ent2, ent3, ent4, Nat.sub_zero, selfBox, argL, argL1, idx, lf, setA, renO, renI, toC, toF, Option.map_none, tupL, Option.getD_some, Option.getD_none, evn])
  intro b1
  (refine hk _ ?_; clear hk k; try show Sat _ _ _ _ _)
  (repeat refine Sat.seq ?_)
  (refine Sat.region_k fun k hk => ?_; simp -implicitDefEqProofs only [evr, id, seval, ent0, ent1, ent2, ent3, ent4, Nat.sub_zero, selfBox, argL, argL1, idx, lf, setA, renO, renI, toC, toF, Option.map_none, tupL, Option.getD_some, Option.getD_none, evn])
  refine wcall_plain (regValidC FrA ad cap es h) (by simp -implicitDefEqProofs only [evr, id, seval, ent0, ent1, ent2, ent3, ent4, Nat.sub_zero, selfBox, argL, argL1, idx, lf, setA, renO, renI, toC, toF, Option.map_none, tupL, Option.getD_some, Option.getD_none, evn]; rfl) (by rintro _ rfl; exact ok_plain rfl) ?_
  rintro r rfl
  simp -implicitDefEqProofs only [evr, id, seval, ent0, ent1, ent2, ent3, ent4, Nat.sub_zero, selfBox, argL, argL1, idx, lf, setA, renO, renI, toC, toF, Option.map_none, tupL, Option.getD_some, Option.getD_none, evn]
  (refine hk _ ?_; clear hk k; try show Sat _ _ _ _ _)
  (repeat refine Sat.seq ?_)
  refine Sat.cond_b rfl (fun h1 => ?_) (fun h1 => ?_)
  · simp only [Bool.not_eq_true', decide_eq_false_iff_not] at h1
    (repeat refine Sat.seq ?_)
    (refine Sat.region_k fun k hk => ?_; simp -implicitDefEqProofs only [evr, id, seval, ent0, ent1, ent2, ent3, ent4, Nat.sub_zero, selfBox, argL, argL1, idx, lf, setA, renO, renI, toC, toF, Option.map_none, tupL, Option.getD_some, Option.getD_none, evn]; refine hk _ ?_; clear hk k; try show Sat _ _ _ _ _)
    refine Sat.ret ?_
    simp only [Tryz.results31, evr, id, seval, List.append_nil, Int.toNat_zero, Nat.sub_self, ent0, ent1, ent2, ent3, ent4, Nat.sub_zero, selfBox, argL, argL1, idx, lf, setA, renO, renI, toC, toF, Option.map_none, tupL, Option.getD_some, Option.getD_none]
    unfold fmtV
    rw [if_neg h1]
    rfl
  · simp only [Bool.not_eq_false', decide_eq_true_eq] at h1
    refine Sat.skip ?_
    simp only [thenK]
    (repeat refine Sat.seq ?_)
    (refine Sat.region_k fun k hk => ?_; simp -implicitDefEqProofs only [evr, id, seval, ent0, ent1, ent2, ent3, ent4, Nat.sub_zero, selfBox, argL, argL1, idx, lf, setA, renO, renI, toC, toF, Option.map_none, tupL, Option.getD_some, Option.getD_none, evn])
    intro b4
    (refine hk _ ?_; clear hk k; try show Sat _ _ _ _ _)
    refine Sat.adoptBox 1 1 5 1 (bytesRd []) rfl rfl ?_
    simp -implicitDefEqProofs only [evr, id, seval, ent0, ent1, ent2, ent3, ent4, Nat.sub_zero, selfBox, argL, argL1, idx, lf, setA, renO, renI, toC, toF, Option.map_none, tupL, Option.getD_some, Option.getD_none, evn]
    (repeat refine Sat.seq ?_)
    (refine Sat.region_k fun k hk => ?_; simp -implicitDefEqProofs only [evr, id, seval, ent0, ent1, ent2, ent3, ent4, Nat.sub_zero, selfBox, argL, argL1, idx, lf, setA, renO, renI, toC, toF, Option.map_none, tupL, Option.getD_some, Option.getD_none, evn]; refine hk _ ?_; clear hk k; try show Sat _ _ _ _ _)
    (repeat refine Sat.seq ?_)
    refine Sat.block ?_
    have hent : ∀ e ∈ es, EntOk e := h1.ent
    have hl1 := h1.1
    refine Sat.loop (ι := Nat × Value × Option Addr × Nat × List UInt8) (fun x => ⟨41, [(13, .sl ad es.length cap 5 (entRd es)), (14, .i .i64 es.length), (15, .i .i64 x.1), (4, .op 1 b4 0)],
      [.box b1 25 [.sl ad es.length cap 5 (entRd es)], .box b4 89 [.v x.2.1, .os 2 x.2.2.1 x.2.2.2.2.length x.2.2.2.1], byRow x.2.2.1 x.2.2.2.2.length x.2.2.2.1 (bytesRd x.2.2.2.2)]⟩)
      (fun x => x.1 ≤ es.length ∧ selfS (.v x.2.1) b4 ∧ x.2.2.2.2 = fmtR (es.take x.1) ∧ (x.2.2.2.2 = [] → x.2.2.1 = none ∧ x.2.2.2.1 = 0)) (fun x => es.length - x.1) (0, .pointer none, none, 0, []) ⟨Nat.zero_le _, .inl rfl, rfl, fun _ => ⟨rfl, rfl⟩⟩ (by simp -implicitDefEqProofs only [evr, id, seval, ent0, ent1, ent2, ent3, ent4, Nat.sub_zero, selfBox, argL, argL1, idx, lf, setA, renO, renI, toC, toF, Option.map_none, tupL, Option.getD_some, Option.getD_none, evl, evn]; done) ?_
    rintro ⟨i, p, a, c, l⟩ ⟨hi, hp, hl, hnil⟩
    simp only at hi hp hl hnil ⊢
    have hlb : l.length ≤ 100 * es.length := by
      have := fmtR_len (es := es.take i) fun e he => hent e (List.mem_of_mem_take he)
      rw [List.length_take] at this
      rw [hl]; omega
    (repeat refine Sat.seq ?_)
    (refine Sat.region_k fun k hk => ?_; simp -implicitDefEqProofs only [evr, id, seval, ent0, ent1, ent2, ent3, ent4, Nat.sub_zero, selfBox, argL, argL1, idx, lf, setA, renO, renI, toC, toF, Option.map_none, tupL, Option.getD_some, Option.getD_none, evn]; refine hk _ ?_; clear hk k; try show Sat _ _ _ _ _)
    (repeat refine Sat.seq ?_)
    refine Sat.cond_b rfl (fun h2 => ?_) (fun h2 => ?_)
    · simp only [decide_eq_true_eq] at h2
      have hlt : i < es.length := by omega
      have e1 : IntKind.i64.wrap ((i : Int) + 1) = ((i + 1 : Nat) : Int) := by rw [w64 (by omega)]; omega
      have hstep := fmtR_take es i hlt
      rw [← hl] at hstep
      have heo : EntOk (es.getD i default) := by rw [getD_lt hlt]; exact hent _ (List.getElem_mem hlt)
      have heok : eOk (es.getD i default) := esOk_at h i
      refine Sat.skip ?_
      simp only [thenK]
      (repeat refine Sat.seq ?_)
      refine Sat.block ?_
      (repeat refine Sat.seq ?_)
      (refine Sat.region_k fun k hk => ?_; simp -implicitDefEqProofs only [evr, id, seval, ent0, ent1, ent2, ent3, ent4, Nat.sub_zero, selfBox, argL, argL1, idx, lf, setA, renO, renI, toC, toF, Option.map_none, tupL, Option.getD_some, Option.getD_none, evn])
      refine ⟨by omega, fun b6 => ?_⟩
      (refine hk _ ?_; clear hk k; try show Sat _ _ _ _ _)
      generalize he : es.getD i default = e at hstep heo heok
      (repeat refine Sat.seq ?_)
      (refine Sat.region_k fun k hk => ?_; simp -implicitDefEqProofs only [evr, id, seval, ent0, ent1, ent2, ent3, ent4, Nat.sub_zero, selfBox, argL, argL1, idx, lf, setA, renO, renI, toC, toF, Option.map_none, tupL, Option.getD_some, Option.getD_none, evn])
      refine wcall_plain ((formatPrefixC e.pr heok).of_sim (ent_pr e)) (by simp -implicitDefEqProofs only [evr, id, seval, ent0, ent1, ent2, ent3, ent4, Nat.sub_zero, selfBox, argL, argL1, idx, lf, setA, renO, renI, toC, toF, Option.map_none, tupL, Option.getD_some, Option.getD_none, evn]) (by rintro _ rfl; exact ok_plain rfl) ?_
      rintro r rfl
      simp -implicitDefEqProofs only [evr, id, seval, ent0, ent1, ent2, ent3, ent4, Nat.sub_zero, selfBox, argL, argL1, idx, lf, setA, renO, renI, toC, toF, Option.map_none, tupL, Option.getD_some, Option.getD_none, evn]
      refine wcall_multi [] [1, 2] (writeStrL FrA b4 (.v p) hp a c l (fmtP e.pr) (fmtP_ne heo.1) (by have := fmtP_len e.pr; omega)) rfl (by decide) (by simp -implicitDefEqProofs only [evr, id, seval, ent0, ent1, ent2, ent3, ent4, Nat.sub_zero, selfBox, argL, argL1, idx, lf, setA, renO, renI, toC, toF, Option.map_none, tupL, Option.getD_some, Option.getD_none, evn]) (by simp -implicitDefEqProofs only [evr, id, seval, ent0, ent1, ent2, ent3, ent4, Nat.sub_zero, selfBox, argL, argL1, idx, lf, setA, renO, renI, toC, toF, Option.map_none, tupL, Option.getD_some, Option.getD_none, evn]; rfl) ?_
      rintro r os1 ⟨rfl, a7, c7, rfl⟩
      simp -implicitDefEqProofs only [evr, id, seval, ent0, ent1, ent2, ent3, ent4, Nat.sub_zero, selfBox, argL, argL1, idx, lf, setA, renO, renI, toC, toF, Option.map_none, tupL, Option.getD_some, Option.getD_none, evn]
      (refine hk _ ?_; clear hk k; try show Sat _ _ _ _ _)
      have hk0 : (l ++ fmtK e 0).length ≤ l.length + 25 := by have := fmtP_len e.pr; rw [List.length_append]; unfold fmtK; omega
      have hKlen : ∀ j, j ≤ 3 → (l ++ fmtK e j).length ≤ l.length + 100 := fun j hj => by
        have g1 := (itoa_len (n := e.prov) (by have := heo.2.1; omega) (by have := heo.2.2.1; omega)).1
        have g2 := (itoa_len (n := e.from_) heo.2.2.2.1 (by have := heo.2.2.2.2; omega)).1
        have g3 := (itoa_len (n := e.to_) (by have := heo.2.2.2; omega) heo.2.2.2.2.2).1
        have g4 := fmtP_len e.pr
        rcases (show j = 0 ∨ j = 1 ∨ j = 2 ∨ j = 3 by omega) with rfl | rfl | rfl | rfl <;>
        · simp only [fmtK, fmtN, numsE, List.getD_cons_zero, List.getD_cons_succ, List.length_append, List.length_cons]
          omega
      (repeat refine Sat.seq ?_)
      (refine Sat.region_k fun k hk => ?_; simp -implicitDefEqProofs only [evr, id, seval, ent0, ent1, ent2, ent3, ent4, Nat.sub_zero, selfBox, argL, argL1, idx, lf, setA, renO, renI, toC, toF, Option.map_none, tupL, Option.getD_some, Option.getD_none, evn]; refine hk _ ?_; clear hk k; try show Sat _ _ _ _ _)
      (repeat refine Sat.seq ?_)
      refine Sat.block ?_
      refine Sat.loop (ι := Nat × Value × Option Addr × Nat × List UInt8) (fun x => ⟨41, [(29, .agg 3 fun j => [SV.i .i64 e.prov, SV.i .i64 e.from_, SV.i .i64 e.to_].getD j default), (30, .i .i64 x.1), (13, .sl ad es.length cap 5 (entRd es)), (14, .i .i64 es.length), (15, .i .i64 i), (4, .op 1 b4 0)],
        [.box b1 25 [.sl ad es.length cap 5 (entRd es)], .box b4 89 [.v x.2.1, .os 2 x.2.2.1 x.2.2.2.2.length x.2.2.2.1], byRow x.2.2.1 x.2.2.2.2.length x.2.2.2.1 (bytesRd x.2.2.2.2)]⟩)
        (fun x => x.1 ≤ 3 ∧ selfS (.v x.2.1) b4 ∧ x.2.2.2.2 = l ++ fmtK e x.1) (fun x => 3 - x.1) (0, .pointer (some ⟨b4, 0, none⟩), a7, c7, l ++ fmtP e.pr) ⟨Nat.zero_le _, .inr rfl, rfl⟩ (by simp -implicitDefEqProofs only [evr, id, seval, ent0, ent1, ent2, ent3, ent4, Nat.sub_zero, selfBox, argL, argL1, idx, lf, setA, renO, renI, toC, toF, Option.map_none, tupL, Option.getD_some, Option.getD_none, evl, evn]; done) ?_
      rintro ⟨j, p2, a2, c2, l2⟩ ⟨hj, hp2, hl2⟩
      simp only at hj hp2 hl2 ⊢
      have hl2b : l2.length ≤ l.length + 100 := by rw [hl2]; exact hKlen j hj
      (repeat refine Sat.seq ?_)
      (refine Sat.region_k fun k hk => ?_; simp -implicitDefEqProofs only [evr, id, seval, ent0, ent1, ent2, ent3, ent4, Nat.sub_zero, selfBox, argL, argL1, idx, lf, setA, renO, renI, toC, toF, Option.map_none, tupL, Option.getD_some, Option.getD_none, evn]; refine hk _ ?_; clear hk k; try show Sat _ _ _ _ _)
      (repeat refine Sat.seq ?_)
      refine Sat.cond_b rfl (fun h3 => ?_) (fun h3 => ?_)
      · simp only [decide_eq_true_eq] at h3
        have hlt3 : j < 3 := by omega
        have e3 : IntKind.i64.wrap ((j : Int) + 1) = ((j + 1 : Nat) : Int) := by rw [w64 (by omega)]; omega
        have hnum : [SV.i .i64 e.prov, SV.i .i64 e.from_, SV.i .i64 e.to_].getD j default = .i .i64 (numsE e j) := by
          rcases (show j = 0 ∨ j = 1 ∨ j = 2 by omega) with rfl | rfl | rfl <;> rfl
        have hnb : 0 ≤ numsE e j ∧ numsE e j ≤ 1125899906842624 := by
          obtain ⟨_, g1, g2, g3, g4, g5⟩ := heo
          rcases (show j = 0 ∨ j = 1 ∨ j = 2 by omega) with rfl | rfl | rfl <;> simp only [numsE, List.getD_cons_zero, List.getD_cons_succ] <;> omega
        have hil := itoa_len hnb.1 hnb.2
        refine Sat.skip ?_
        simp only [thenK]
        (repeat refine Sat.seq ?_)
        refine Sat.block ?_
        (repeat refine Sat.seq ?_)
        (refine Sat.region_k fun k hk => ?_; simp -implicitDefEqProofs only [evr, id, seval, ent0, ent1, ent2, ent3, ent4, Nat.sub_zero, selfBox, argL, argL1, idx, lf, setA, renO, renI, toC, toF, Option.map_none, tupL, Option.getD_some, Option.getD_none, evn])
        simp only [Nat.mul_one, hnum]
        refine ⟨by omega, by omega, ?_⟩
        (refine hk _ ?_; clear hk k; try show Sat _ _ _ _ _)
        (repeat refine Sat.seq ?_)
        refine Sat.region_k fun k hk => ?_
        simp -implicitDefEqProofs only [evr, id, seval, ent0, ent1, ent2, ent3, ent4, Nat.sub_zero, selfBox, argL, argL1, idx, lf, setA, renO, renI, toC, toF, Option.map_none, tupL, Option.getD_some, Option.getD_none, evn]
        refine wcall_multi [] [1, 2] (writeByteL FrA b4 (.v p2) hp2 a2 c2 l2 32 (by omega)) rfl (by decide) (by simp -implicitDefEqProofs only [evr, id, seval, ent0, ent1, ent2, ent3, ent4, Nat.sub_zero, selfBox, argL, argL1, idx, lf, setA, renO, renI, toC, toF, Option.map_none, tupL, Option.getD_some, Option.getD_none, evn]) (by simp -implicitDefEqProofs only [evr, id, seval, ent0, ent1, ent2, ent3, ent4, Nat.sub_zero, selfBox, argL, argL1, idx, lf, setA, renO, renI, toC, toF, Option.map_none, tupL, Option.getD_some, Option.getD_none, evn]) ?_
        rintro r os1 ⟨rfl, a8, c8, rfl⟩
        simp -implicitDefEqProofs only [evr, id, seval, ent0, ent1, ent2, ent3, ent4, Nat.sub_zero, selfBox, argL, argL1, idx, lf, setA, renO, renI, toC, toF, Option.map_none, tupL, Option.getD_some, Option.getD_none, evn]
        refine hk _ ?_
        simp only [thenK, blockK]
        (repeat refine Sat.seq ?_)
        refine Sat.region_k fun k hk => ?_
        simp -implicitDefEqProofs only [evr, id, seval, ent0, ent1, ent2, ent3, ent4, Nat.sub_zero, selfBox, argL, argL1, idx, lf, setA, renO, renI, toC, toF, Option.map_none, tupL, Option.getD_some, Option.getD_none, evn]
        refine wcall_plain (itoaC (numsE e j) (by omega) (by omega)) rfl (by rintro _ rfl; exact ok_plain rfl) ?_
        rintro r rfl
        simp -implicitDefEqProofs only [evr, id, seval, ent0, ent1, ent2, ent3, ent4, Nat.sub_zero, selfBox, argL, argL1, idx, lf, setA, renO, renI, toC, toF, Option.map_none, tupL, Option.getD_some, Option.getD_none, evn]
        refine wcall_multi [] [1, 2] (writeStrL FrA b4 (.v (.pointer (some ⟨b4, 0, none⟩))) (.inr rfl) a8 c8 (l2 ++ [32]) (Lib.itoa (numsE e j)) hil.2 (by simp only [List.length_append, List.length_cons, List.length_nil]; omega)) rfl (by decide) (by simp -implicitDefEqProofs only [evr, id, seval, ent0, ent1, ent2, ent3, ent4, Nat.sub_zero, selfBox, argL, argL1, idx, lf, setA, renO, renI, toC, toF, Option.map_none, tupL, Option.getD_some, Option.getD_none, evn]) (by simp -implicitDefEqProofs only [evr, id, seval, ent0, ent1, ent2, ent3, ent4, Nat.sub_zero, selfBox, argL, argL1, idx, lf, setA, renO, renI, toC, toF, Option.map_none, tupL, Option.getD_some, Option.getD_none, evn]; rfl) ?_
        rintro r os1 ⟨rfl, a9, c9, rfl⟩
        simp -implicitDefEqProofs only [evr, id, seval, ent0, ent1, ent2, ent3, ent4, Nat.sub_zero, selfBox, argL, argL1, idx, lf, setA, renO, renI, toC, toF, Option.map_none, tupL, Option.getD_some, Option.getD_none, evn]
        refine hk _ ?_
        simp only [thenK, blockK]
        refine Sat.region_k fun k hk => ?_
        simp -implicitDefEqProofs only [evr, id, seval, ent0, ent1, ent2, ent3, ent4, Nat.sub_zero, selfBox, argL, argL1, idx, lf, setA, renO, renI, toC, toF, Option.map_none, tupL, Option.getD_some, Option.getD_none, evn]
        rw [e3]
        refine hk _ ?_
        simp only [thenK, blockK]
        refine ⟨(j + 1, .pointer (some ⟨b4, 0, none⟩), a9, c9, l2 ++ [32] ++ Lib.itoa (numsE e j)), ⟨by simp only; omega, .inr rfl, by simp only; rw [hl2]; simp [fmtK, fmtN]⟩, by simp only; omega, ?_⟩
        simp -implicitDefEqProofs only [evr, id, seval, ent0, ent1, ent2, ent3, ent4, Nat.sub_zero, selfBox, argL, argL1, idx, lf, setA, renO, renI, toC, toF, Option.map_none, tupL, Option.getD_some, Option.getD_none, evl, evn]
      · simp only [decide_eq_false_iff_not] at h3
        obtain rfl : j = 3 := by omega
        refine Sat.exit ?_
        simp only [thenK, blockK, reduceIte]
        refine Sat.region_k fun k hk => ?_
        simp -implicitDefEqProofs only [evr, id, seval, ent0, ent1, ent2, ent3, ent4, Nat.sub_zero, selfBox, argL, argL1, idx, lf, setA, renO, renI, toC, toF, Option.map_none, tupL, Option.getD_some, Option.getD_none, evn]
        refine wcall_multi [] [1, 2] (writeByteL FrA b4 (.v p2) hp2 a2 c2 l2 10 (by omega)) rfl (by decide) (by simp -implicitDefEqProofs only [evr, id, seval, ent0, ent1, ent2, ent3, ent4, Nat.sub_zero, selfBox, argL, argL1, idx, lf, setA, renO, renI, toC, toF, Option.map_none, tupL, Option.getD_some, Option.getD_none, evn]) (by simp -implicitDefEqProofs only [evr, id, seval, ent0, ent1, ent2, ent3, ent4, Nat.sub_zero, selfBox, argL, argL1, idx, lf, setA, renO, renI, toC, toF, Option.map_none, tupL, Option.getD_some, Option.getD_none, evn]) ?_
        rintro r os1 ⟨rfl, a8, c8, rfl⟩
        simp -implicitDefEqProofs only [evr, id, seval, ent0, ent1, ent2, ent3, ent4, Nat.sub_zero, selfBox, argL, argL1, idx, lf, setA, renO, renI, toC, toF, Option.map_none, tupL, Option.getD_some, Option.getD_none, evn]
        refine hk _ ?_
        simp only [thenK, blockK]
        refine Sat.region_k fun k hk => ?_
        simp -implicitDefEqProofs only [evr, id, seval, ent0, ent1, ent2, ent3, ent4, Nat.sub_zero, selfBox, argL, argL1, idx, lf, setA, renO, renI, toC, toF, Option.map_none, tupL, Option.getD_some, Option.getD_none, evn]
        rw [e1]
        refine hk _ ?_
        simp only [thenK, blockK]
        refine ⟨(i + 1, .pointer (some ⟨b4, 0, none⟩), a8, c8, l2 ++ [10]), ⟨by simp only; omega, .inr rfl, by simp only; rw [hstep, hl2]; simp [fmtK, fmtE, numsE], fun h9 => absurd h9 (by simp)⟩, by simp only; omega, ?_⟩
        simp -implicitDefEqProofs only [evr, id, seval, ent0, ent1, ent2, ent3, ent4, Nat.sub_zero, selfBox, argL, argL1, idx, lf, setA, renO, renI, toC, toF, Option.map_none, tupL, Option.getD_some, Option.getD_none, evl, evn]
    · simp only [decide_eq_false_iff_not] at h2
      obtain rfl : i = es.length := by omega
      rw [List.take_length] at hl
      refine Sat.exit ?_
      simp only [thenK, blockK, reduceIte]
      (repeat refine Sat.seq ?_)
      (refine Sat.region_k fun k hk => ?_; simp -implicitDefEqProofs only [evr, id, seval, ent0, ent1, ent2, ent3, ent4, Nat.sub_zero, selfBox, argL, argL1, idx, lf, setA, renO, renI, toC, toF, Option.map_none, tupL, Option.getD_some, Option.getD_none, evn])
      have hv : fmtV es = (l, 0) := by unfold fmtV; rw [if_pos h1, hl]
      by_cases h0 : l = []
      · obtain ⟨rfl, rfl⟩ := hnil h0
        subst h0
        refine wcall_multi [] [1, 2] (stringNilC FrA b4 (.v p) (bytesRd [])) rfl (by decide) (by simp -implicitDefEqProofs only [evr, id, seval, ent0, ent1, ent2, ent3, ent4, Nat.sub_zero, selfBox, argL, argL1, idx, lf, setA, renO, renI, toC, toF, Option.map_none, tupL, Option.getD_some, Option.getD_none, evn]) (by simp -implicitDefEqProofs only [evr, id, seval, ent0, ent1, ent2, ent3, ent4, Nat.sub_zero, selfBox, argL, argL1, idx, lf, setA, renO, renI, toC, toF, Option.map_none, tupL, Option.getD_some, Option.getD_none, evn]) ?_
        rintro r os1 ⟨rfl, rfl⟩
        simp -implicitDefEqProofs only [evr, id, seval, ent0, ent1, ent2, ent3, ent4, Nat.sub_zero, selfBox, argL, argL1, idx, lf, setA, renO, renI, toC, toF, Option.map_none, tupL, Option.getD_some, Option.getD_none, evn]
        (refine hk _ ?_; clear hk k; try show Sat _ _ _ _ _)
        refine Sat.ret ?_
        simp only [Tryz.results31, evr, id, seval, List.append_nil, Int.toNat_zero, Nat.sub_self, ent0, ent1, ent2, ent3, ent4, Nat.sub_zero, selfBox, argL, argL1, idx, lf, setA, renO, renI, toC, toF, Option.map_none, tupL, Option.getD_some, Option.getD_none]
        rw [hv]
        rfl
      · refine wcall_multi [] [1, 2] (stringC FrA b4 (.v p) a l.length c l rfl h0) rfl (by decide) (by simp -implicitDefEqProofs only [evr, id, seval, ent0, ent1, ent2, ent3, ent4, Nat.sub_zero, selfBox, argL, argL1, idx, lf, setA, renO, renI, toC, toF, Option.map_none, tupL, Option.getD_some, Option.getD_none, evn]) (by simp -implicitDefEqProofs only [evr, id, seval, ent0, ent1, ent2, ent3, ent4, Nat.sub_zero, selfBox, argL, argL1, idx, lf, setA, renO, renI, toC, toF, Option.map_none, tupL, Option.getD_some, Option.getD_none, evn]) ?_
        rintro r os1 ⟨rfl, rfl⟩
        simp -implicitDefEqProofs only [evr, id, seval, ent0, ent1, ent2, ent3, ent4, Nat.sub_zero, selfBox, argL, argL1, idx, lf, setA, renO, renI, toC, toF, Option.map_none, tupL, Option.getD_some, Option.getD_none, evn]
        (refine hk _ ?_; clear hk k; try show Sat _ _ _ _ _)
        refine Sat.ret ?_
        simp only [Tryz.results31, evr, id, seval, List.append_nil, Int.toNat_zero, Nat.sub_self, ent0, ent1, ent2, ent3, ent4, Nat.sub_zero, selfBox, argL, argL1, idx, lf, setA, renO, renI, toC, toF, Option.map_none, tupL, Option.getD_some, Option.getD_none]
        rw [hv]
        rfl
end Go.Proofs.YtepkbbmjbbnhnaaGreatDoor
