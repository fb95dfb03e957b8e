/- registry.times, by the evaluator. -/
import Derived.Test.YtepkbbmjbbnhnaaGreatDoorRgvE
import Derived.Test.YtepkbbmjbbnhnaaGreatDoorCpiE
set_option linter.unusedSimpArgs false
set_option linter.unusedVariables false
namespace Go.Proofs.YtepkbbmjbbnhnaaGreatDoor
open Go.Sort Eng
structure RgP where
  ad : Option Addr
  cap : Nat
  es : List Ent
instance : Inhabited RgP := ⟨⟨none, 0, []⟩⟩
def RgP.sl (r : RgP) : SV := .sl r.ad r.es.length r.cap 5 (entRd r.es)
def RgP.s (r : RgP) : SV := regS r.ad r.cap r.es
def regsRd (rs : List RgP) : Nat → Nat → SV := fun i _ => (rs.getD i default).sl
theorem regs0 (rs : List RgP) (i j : Nat) : regsRd rs i j = .sl (rs.getD i default).ad (rs.getD i default).es.length (rs.getD i default).cap 5 (entRd (rs.getD i default).es) := rfl
def rsOk (rs : List RgP) : Prop := ∀ r ∈ rs, esOk r.es ∧ r.es.length ≤ 1024
theorem rsOk_at {rs : List RgP} (h : rsOk rs) (i : Nat) : esOk (rs.getD i default).es ∧ (rs.getD i default).es.length ≤ 1024 := by
  rcases Nat.lt_or_ge i rs.length with h1 | h1
  · have : rs.getD i default = rs[i] := by simp [List.getD, h1]
    rw [this]; exact h _ (List.getElem_mem h1)
  · simp only [List.getD, List.getElem?_eq_none h1, Option.getD_none]
    exact ⟨fun e he => absurd he (by show ¬ e ∈ ([] : List Ent); simp), by decide⟩
def ftL (a : Nat) (es : List Ent) : List Int := es.flatMap fun e => if cont e.pr a = true then [e.from_, e.to_] else []
def ftsL (a : Nat) (rs : List RgP) : List Int := rs.flatMap fun r => ftL a r.es
def timesL (a : Nat) (rs : List RgP) : List Int := compactI (sortI ([0, 1125899906842624] ++ ftsL a rs))
theorem ftL_take (a : Nat) (es : List Ent) (i : Nat) (h : i < es.length) : ftL a (es.take (i + 1)) = ftL a (es.take i) ++ if cont (es.getD i default).pr a = true then [(es.getD i default).from_, (es.getD i default).to_] else [] := by
  rw [List.take_succ_eq_append_getElem h, ftL, List.flatMap_append, getD_lt h]
  simp [ftL]
theorem ftsL_take (a : Nat) (rs : List RgP) (i : Nat) (h : i < rs.length) : ftsL a (rs.take (i + 1)) = ftsL a (rs.take i) ++ ftL a (rs.getD i default).es := by
  have : rs.getD i default = rs[i] := by simp [List.getD, h]
  rw [List.take_succ_eq_append_getElem h, ftsL, List.flatMap_append, this]
  simp [ftsL]
theorem ftL_len (a : Nat) (es : List Ent) : (ftL a es).length ≤ 2 * es.length := by
  induction es with
  | nil => simp [ftL]
  | cons e es ih =>
    unfold ftL at ih ⊢
    rw [List.flatMap_cons, List.length_append, List.length_cons]
    split
    · simp only [List.length_cons, List.length_nil]; omega
    · simp only [List.length_nil]; omega
theorem ftsL_len (a : Nat) : ∀ (rs : List RgP), rsOk rs → (ftsL a rs).length ≤ 2048 * rs.length
  | [], _ => by simp [ftsL]
  | r :: rs, h => by
    have h1 := ftsL_len a rs fun x hx => h x (List.mem_cons_of_mem _ hx)
    have h2 := ftL_len a r.es
    have h3 := (h r List.mem_cons_self).2
    unfold ftsL at h1 ⊢
    rw [List.flatMap_cons, List.length_append, List.length_cons]
    omega
theorem ints_cat (l : List Int) (x y : Int) : rdEq (l.length + 2) 1 (rdCat l.length (intsA l.toArray) (rdL [.i .i64 x, .i .i64 y] 1)) (intsA (l ++ [x, y]).toArray) := by
  intro p q hp hq
  obtain rfl : q = 0 := by omega
  unfold rdCat rdL intsA
  split
  · rename_i h
    simp [getElem!_def, List.getElem?_append, h]
  · rename_i h
    rcases (show p = l.length ∨ p = l.length + 1 by omega) with rfl | rfl
    · simp [getElem!_def, List.getElem?_append]
    · simp [getElem!_def, List.getElem?_append]
set_option maxRecDepth 100000 in
theorem timesC (F : Frm) (ad : Option Addr) (cap : Nat) (rs : List RgP) (h : rsOk rs) (hr : rs.length ≤ 16) (a : Nat) (ha : a < 2 ^ 32) :
    Contract F Tryz.prog 44 [.i .u32 a, .sl ad rs.length cap 1 (regsRd rs)] (fun r => ∃ a2 c, r = .sl a2 (timesL a rs).length c 1 (intsA (timesL a rs).toArray)) := by
  have hlen := ftsL_len a rs h
  refine contract_of Tryz.func44 rfl (by kernel_rfl) ?_
  simp only [Tryz.ntmps44, argEnv]
  (repeat refine Sat.seq ?_)
  (refine Sat.region_k fun k hk => ?_; simp -implicitDefEqProofs only [evr, id, seval, ent0, ent1, ent2, ent3, ent4, Nat.sub_zero, regs0, int_at, evn]; refine hk _ ?_; clear hk k; try show Sat _ _ _ _ _)
  (repeat refine Sat.seq ?_)
  (refine Sat.region_k fun k hk => ?_; simp -implicitDefEqProofs only [evr, id, seval, ent0, ent1, ent2, ent3, ent4, Nat.sub_zero, regs0, int_at, evn])
  intro b5
  (refine hk _ ?_; clear hk k; try show Sat _ _ _ _ _)
  (repeat refine Sat.seq ?_)
  (refine Sat.region_k fun k hk => ?_; simp -implicitDefEqProofs only [evr, id, seval, ent0, ent1, ent2, ent3, ent4, Nat.sub_zero, regs0, int_at, evn]; refine hk _ ?_; clear hk k; try show Sat _ _ _ _ _)
  (repeat refine Sat.seq ?_)
  refine Sat.block ?_
  refine Sat.loop (ι := Nat × Option Addr × Nat × List Int) (fun x => ⟨41, [(11, .sl ad rs.length cap 1 (regsRd rs)), (12, .i .i64 rs.length), (13, .i .i64 x.1), (0, .i .u32 a), (5, .os 0 x.2.1 x.2.2.2.length x.2.2.1)],
      [intRowA x.2.1 x.2.2.2.length x.2.2.1 x.2.2.2.toArray]⟩)
    (fun x => x.1 ≤ rs.length ∧ x.2.2.2 = [0, 1125899906842624] ++ ftsL a (rs.take x.1)) (fun x => rs.length - x.1) (0, some ⟨b5, 0, none⟩, 2, [0, 1125899906842624]) ⟨Nat.zero_le _, rfl⟩ (by
      simp -implicitDefEqProofs only [evr, id, seval, ent0, ent1, ent2, ent3, ent4, Nat.sub_zero, regs0, int_at, evl, evn]
      intro p q hp hq
      obtain rfl : q = 0 := by omega
      rcases (show p = 0 ∨ p = 1 by omega) with rfl | rfl <;> rfl) ?_
  rintro ⟨i, a5, c5, zs⟩ ⟨hi, hz⟩
  simp only at hi hz ⊢
  have hzl : zs.length = 2 + (ftsL a (rs.take i)).length := by rw [hz]; simp; omega
  have hzb : zs.length ≤ 2 + 2048 * 16 := by
    have := ftsL_len a (rs.take i) (fun r hr => h r (List.mem_of_mem_take hr))
    rw [List.length_take] at this
    omega
  (repeat refine Sat.seq ?_)
  (refine Sat.region_k fun k hk => ?_; simp -implicitDefEqProofs only [evr, id, seval, ent0, ent1, ent2, ent3, ent4, Nat.sub_zero, regs0, int_at, evn]; refine hk _ ?_; clear hk k; try show Sat _ _ _ _ _)
  (repeat refine Sat.seq ?_)
  refine Sat.cond_b rfl (fun h2 => ?_) (fun h2 => ?_)
  · simp only [decide_eq_true_eq] at h2
    have hlt : i < rs.length := by omega
    have e1 : IntKind.i64.wrap ((i : Int) + 1) = ((i + 1 : Nat) : Int) := by rw [w64 (by omega)]; omega
    have hstep := ftsL_take a rs i hlt
    obtain ⟨hok, hel⟩ := rsOk_at h i
    generalize hrg : rs.getD i default = rg at hok hel hstep
    refine Sat.skip ?_
    simp only [thenK]
    (repeat refine Sat.seq ?_)
    refine Sat.block ?_
    (repeat refine Sat.seq ?_)
    (refine Sat.region_k fun k hk => ?_; simp -implicitDefEqProofs only [evr, id, seval, ent0, ent1, ent2, ent3, ent4, Nat.sub_zero, regs0, int_at, evn])
    rw [hrg]
    refine ⟨by omega, fun b7 => ?_⟩
    (refine hk _ ?_; clear hk k; try show Sat _ _ _ _ _)
    (repeat refine Sat.seq ?_)
    (refine Sat.region_k fun k hk => ?_; simp -implicitDefEqProofs only [evr, id, seval, ent0, ent1, ent2, ent3, ent4, Nat.sub_zero, regs0, int_at, evn]; refine hk _ ?_; clear hk k; try show Sat _ _ _ _ _)
    (repeat refine Sat.seq ?_)
    refine Sat.block ?_
    refine Sat.loop (ι := Nat × Option Addr × Nat × List Int) (fun x => ⟨41, [(11, .sl ad rs.length cap 1 (regsRd rs)), (12, .i .i64 rs.length), (13, .i .i64 i), (0, .i .u32 a), (18, .sl rg.ad rg.es.length rg.cap 5 (entRd rg.es)), (19, .i .i64 rg.es.length), (20, .i .i64 x.1), (5, .os 0 x.2.1 x.2.2.2.length x.2.2.1)],
      [intRowA x.2.1 x.2.2.2.length x.2.2.1 x.2.2.2.toArray]⟩)
      (fun x => x.1 ≤ rg.es.length ∧ x.2.2.2 = zs ++ ftL a (rg.es.take x.1)) (fun x => rg.es.length - x.1) (0, a5, c5, zs) ⟨Nat.zero_le _, by simp [ftL]⟩ (by simp -implicitDefEqProofs only [evr, id, seval, ent0, ent1, ent2, ent3, ent4, Nat.sub_zero, regs0, int_at, evl, evn]) ?_
    rintro ⟨j, a6, c6, ys⟩ ⟨hj, hy⟩
    simp only at hj hy ⊢
    have hyb : ys.length ≤ zs.length + 2048 := by
      have := ftL_len a (rg.es.take j)
      rw [List.length_take] at this
      rw [hy, List.length_append]
      omega
    (repeat refine Sat.seq ?_)
    (refine Sat.region_k fun k hk => ?_; simp -implicitDefEqProofs only [evr, id, seval, ent0, ent1, ent2, ent3, ent4, Nat.sub_zero, regs0, int_at, evn]; refine hk _ ?_; clear hk k; try show Sat _ _ _ _ _)
    (repeat refine Sat.seq ?_)
    refine Sat.cond_b rfl (fun h3 => ?_) (fun h3 => ?_)
    · simp only [decide_eq_true_eq] at h3
      have hlt3 : j < rg.es.length := by omega
      have e3 : IntKind.i64.wrap ((j : Int) + 1) = ((j + 1 : Nat) : Int) := by rw [w64 (by omega)]; omega
      have hst := ftL_take a rg.es j hlt3
      refine Sat.skip ?_
      simp only [thenK]
      (repeat refine Sat.seq ?_)
      refine Sat.block ?_
      (repeat refine Sat.seq ?_)
      (refine Sat.region_k fun k hk => ?_; simp -implicitDefEqProofs only [evr, id, seval, ent0, ent1, ent2, ent3, ent4, Nat.sub_zero, regs0, int_at, evn])
      refine ⟨by omega, fun b9 => ?_⟩
      (refine hk _ ?_; clear hk k; try show Sat _ _ _ _ _)
      have heok : eOk (rg.es.getD j default) := esOk_at hok j
      generalize he : rg.es.getD j default = e at heok hst
      (repeat refine Sat.seq ?_)
      (refine Sat.region_k fun k hk => ?_; simp -implicitDefEqProofs only [evr, id, seval, ent0, ent1, ent2, ent3, ent4, Nat.sub_zero, regs0, int_at, evn])
      refine wcall_plain ((containsC F e.pr heok a ha).of_sim (args := [.agg 2 fun j => [SV.i .u32 (e.addr : Nat), .i .i64 e.len, .i .i64 e.prov, .i .i64 e.from_, .i .i64 e.to_].getD j default, .i .u32 a]) ⟨(ent_pr e).1, sim_refl _, trivial⟩) (by simp -implicitDefEqProofs only [evr, id, seval, ent0, ent1, ent2, ent3, ent4, Nat.sub_zero, regs0, int_at, evn]) (by rintro _ rfl; exact ok_plain rfl) ?_
      rintro r rfl
      simp -implicitDefEqProofs only [evr, id, seval, ent0, ent1, ent2, ent3, ent4, Nat.sub_zero, regs0, int_at, evn]
      (refine hk _ ?_; clear hk k; try show Sat _ _ _ _ _)
      refine Sat.cond_b rfl (fun h4 => ?_) (fun h4 => ?_)
      · rw [if_pos h4] at hst
        (repeat refine Sat.seq ?_)
        refine Sat.region_k fun k hk => ?_
        simp -implicitDefEqProofs only [evr, id, seval, ent0, ent1, ent2, ent3, ent4, Nat.sub_zero, regs0, int_at, evn]
        refine fun bl => ⟨⟨by unfold maxLen; omega, by omega⟩, fun a7 c7 => hk _ ?_⟩
        simp only [thenK, blockK]
        refine Sat.region_k fun k hk => ?_
        simp -implicitDefEqProofs only [evr, id, seval, ent0, ent1, ent2, ent3, ent4, Nat.sub_zero, regs0, int_at, evn]
        rw [e3]
        refine hk _ ?_
        simp only [thenK, blockK]
        refine ⟨(j + 1, a7, c7, ys ++ [e.from_, e.to_]), ⟨by simp only; omega, by simp only; rw [hst, hy, List.append_assoc]⟩, by simp only; omega, ?_⟩
        have e7 : (ys ++ [e.from_, e.to_]).length = ys.length + 2 := by simp
        rw [e7]
        simp -implicitDefEqProofs only [evr, id, seval, ent0, ent1, ent2, ent3, ent4, Nat.sub_zero, regs0, int_at, evl, evn]
        exact ints_cat ys e.from_ e.to_
      · rw [if_neg (by rw [h4]; decide), List.append_nil] at hst
        refine Sat.skip ?_
        simp only [thenK, blockK]
        refine Sat.region_k fun k hk => ?_
        simp -implicitDefEqProofs only [evr, id, seval, ent0, ent1, ent2, ent3, ent4, Nat.sub_zero, regs0, int_at, evn]
        rw [e3]
        refine hk _ ?_
        simp only [thenK, blockK]
        refine ⟨(j + 1, a6, c6, ys), ⟨by simp only; omega, by simp only; rw [hst, hy]⟩, by simp only; omega, ?_⟩
        simp -implicitDefEqProofs only [evr, id, seval, ent0, ent1, ent2, ent3, ent4, Nat.sub_zero, regs0, int_at, evl, evn]
    · simp only [decide_eq_false_iff_not] at h3
      obtain rfl : j = rg.es.length := by omega
      rw [List.take_length] at hy
      refine Sat.exit ?_
      simp only [thenK, blockK, reduceIte]
      refine Sat.region_k fun k hk => ?_
      simp -implicitDefEqProofs only [evr, id, seval, ent0, ent1, ent2, ent3, ent4, Nat.sub_zero, regs0, int_at, evn]
      rw [e1]
      refine hk _ ?_
      simp only [thenK, blockK]
      refine ⟨(i + 1, a6, c6, ys), ⟨by simp only; omega, by simp only; rw [hstep, hy, hz, List.append_assoc]⟩, by simp only; omega, ?_⟩
      simp -implicitDefEqProofs only [evr, id, seval, ent0, ent1, ent2, ent3, ent4, Nat.sub_zero, regs0, int_at, evl, evn]
  · simp only [decide_eq_false_iff_not] at h2
    obtain rfl : i = rs.length := by omega
    rw [List.take_length] at hz
    refine Sat.exit ?_
    simp only [thenK, blockK, reduceIte]
    (repeat refine Sat.seq ?_)
    (refine Sat.region_k fun k hk => ?_; simp -implicitDefEqProofs only [evr, id, seval, ent0, ent1, ent2, ent3, ent4, Nat.sub_zero, regs0, int_at, evn])
    refine wcall_mut 0 (sortIC F a5 c5 zs (by omega) (by omega)) rfl (by simp -implicitDefEqProofs only [evr, id, seval, ent0, ent1, ent2, ent3, ent4, Nat.sub_zero, regs0, int_at, evn]) ?_
    rintro r o1 ⟨rfl, rfl⟩
    simp -implicitDefEqProofs only [evr, id, seval, ent0, ent1, ent2, ent3, ent4, Nat.sub_zero, regs0, int_at, evn]
    (refine hk _ ?_; clear hk k; try show Sat _ _ _ _ _)
    (repeat refine Sat.seq ?_)
    (refine Sat.region_k fun k hk => ?_; simp -implicitDefEqProofs only [evr, id, seval, ent0, ent1, ent2, ent3, ent4, Nat.sub_zero, regs0, int_at, evn])
    have hsl := sortI_len zs
    refine wcall_mut 0 (compactIC F a5 c5 zs.length (by omega) (sortI zs).toArray (by simp [hsl])) rfl (by simp -implicitDefEqProofs only [evr, id, seval, ent0, ent1, ent2, ent3, ent4, Nat.sub_zero, regs0, int_at, evn]) ?_
    rintro r o1 ⟨rfl, rfl⟩
    simp -implicitDefEqProofs only [evr, id, seval, ent0, ent1, ent2, ent3, ent4, Nat.sub_zero, regs0, int_at, evn]
    (refine hk _ ?_; clear hk k; try show Sat _ _ _ _ _)
    refine Sat.ret ?_
    simp only [Tryz.results44, evr, id, seval, List.append_nil, Int.toNat_zero, Nat.sub_self, ent0, ent1, ent2, ent3, ent4, Nat.sub_zero, regs0, int_at]
    have hf : timesL a rs = compactI (sortI zs).toArray.toList := by unfold timesL; rw [hz]
    rw [hf]
    exact ⟨_, _, rfl⟩
end Go.Proofs.YtepkbbmjbbnhnaaGreatDoor
