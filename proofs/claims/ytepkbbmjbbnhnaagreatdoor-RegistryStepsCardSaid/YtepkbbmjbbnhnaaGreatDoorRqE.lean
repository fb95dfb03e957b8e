/- The reference of law 32: times, by the evaluator (for no list yet, and for a list of its caller's). -/
import Derived.Test.YtepkbbmjbbnhnaaGreatDoorRqD
import Derived.Test.YtepkbbmjbbnhnaaGreatDoorRqB
set_option linter.unusedSimpArgs false
set_option linter.unusedVariables false
namespace Go.Proofs.YtepkbbmjbbnhnaaGreatDoor
open Go.Sort Eng
theorem ints_cat2 (l : List Int) (x y : Int) : rdEq (l.length + 2) 1 (rdCat l.length (intsA l.toArray) (rdL [.i .i64 x, .i .i64 y] 1)) (intsA (l ++ [x, y]).toArray) := ints_cat l x y
set_option maxRecDepth 100000 in
theorem refTimesC (F : Frm) (rd0 : Nat → Nat → SV) (ad : Option Addr) (cap : Nat) (es : List Ent) (h : esOk es) (hn : es.length ≤ 2000) (a : Nat) (ha : a < 2 ^ 32) :
    ContractN F Tryz.prog 45 [.sl none 0 0 0 rd0, regS ad cap es, .i .u32 a] (fun o => ∃ a2 c, o = intRowA a2 (timesL a [⟨ad, cap, es⟩]).length c (timesL a [⟨ad, cap, es⟩]).toArray) := by
  refine contractN_of Tryz.func45 rfl (by kernel_rfl) ?_
  simp only [Tryz.ntmps45, argEnv, regS]
  (repeat refine Sat.seq ?_)
  (refine Sat.region_k fun k hk => ?_; simp -implicitDefEqProofs only [evr, id, seval, ent0, ent1, ent2, ent3, ent4, Nat.sub_zero, int_at, intRowA, evn])
  intro b4
  (refine hk _ ?_; clear hk k; try show Sat _ _ _ _ _)
  refine Sat.adopt 0 3 1 (intsA #[]) rfl ?_
  (repeat refine Sat.seq ?_)
  (refine Sat.region_k fun k hk => ?_; simp -implicitDefEqProofs only [evr, id, seval, ent0, ent1, ent2, ent3, ent4, Nat.sub_zero, int_at, intRowA, evn])
  refine fun bl => ⟨by unfold maxLen; omega, fun a1 c1 => ?_⟩
  (refine hk _ ?_; clear hk k; try show Sat _ _ _ _ _)
  (repeat refine Sat.seq ?_)
  (refine Sat.region_k fun k hk => ?_; simp -implicitDefEqProofs only [evr, id, seval, ent0, ent1, ent2, ent3, ent4, Nat.sub_zero, int_at, intRowA, evn]; refine hk _ ?_; clear hk k; try show Sat _ _ _ _ _)
  (repeat refine Sat.seq ?_)
  refine Sat.block ?_
  refine Sat.loop (ι := Nat × Option Addr × Nat × List Int) (fun x => ⟨43, [(7, .i .i64 x.1), (0, .os 1 x.2.1 x.2.2.2.length x.2.2.1), (2, .i .u32 a), (4, .op 0 b4 0)], [.box b4 25 [.sl ad es.length cap 5 (entRd es)], .row x.2.1 3 x.2.2.2.length x.2.2.1 1 (intsA x.2.2.2.toArray)]⟩)
    (fun x => x.1 ≤ es.length ∧ x.2.2.2 = ([0, 1125899906842624] ++ ftL a (es.take x.1))) (fun x => es.length - x.1) (0, a1, c1, [0, 1125899906842624]) ⟨Nat.zero_le _, by simp [ftL]⟩ (by
      simp -implicitDefEqProofs only [evr, id, seval, ent0, ent1, ent2, ent3, ent4, Nat.sub_zero, int_at, intRowA, evl, evn]
      intro p q hp hq
      obtain rfl : q = 0 := by omega
      rcases (show p = 0 ∨ p = 1 by omega) with rfl | rfl <;> rfl) ?_
  rintro ⟨i, a5, c5, ys⟩ ⟨hi, hy⟩
  simp only at hi hy ⊢
  have hyb : ys.length ≤ 4002 := by
    have := ftL_len a (es.take i)
    rw [List.length_take] at this
    rw [hy]
    simp only [List.length_append, List.length_cons, List.length_nil]
    omega
  (repeat refine Sat.seq ?_)
  (refine Sat.region_k fun k hk => ?_; simp -implicitDefEqProofs only [evr, id, seval, ent0, ent1, ent2, ent3, ent4, Nat.sub_zero, int_at, intRowA, evn]; refine hk _ ?_; clear hk k; try show Sat _ _ _ _ _)
  (repeat refine Sat.seq ?_)
  refine Sat.cond_b rfl (fun h3 => ?_) (fun h3 => ?_)
  · simp only [decide_eq_true_eq] at h3
    have hlt3 : i < es.length := by omega
    have e3 : IntKind.i64.wrap ((i : Int) + 1) = ((i + 1 : Nat) : Int) := by rw [w64 (by omega)]; omega
    have hst := ftL_take a es i hlt3
    have heok : eOk (es.getD i default) := esOk_at h i
    refine Sat.skip ?_
    simp only [thenK]
    (repeat refine Sat.seq ?_)
    refine Sat.block ?_
    (repeat refine Sat.seq ?_)
    (refine Sat.region_k fun k hk => ?_; simp -implicitDefEqProofs only [evr, id, seval, ent0, ent1, ent2, ent3, ent4, Nat.sub_zero, int_at, intRowA, evn])
    refine ⟨by omega, ?_⟩
    refine wcall_plain ((rfContainsC F (es.getD i default).pr heok a ha).of_sim (args := [.agg 2 fun j => entRd es i j, .i .u32 a]) ⟨sim_agg2 (sim_refl _) (sim_refl _), sim_refl _, trivial⟩) (by simp -implicitDefEqProofs only [evr, id, seval, ent0, ent1, ent2, ent3, ent4, Nat.sub_zero, int_at, intRowA, evn]) (by rintro _ rfl; exact ok_plain rfl) ?_
    rintro r rfl
    simp -implicitDefEqProofs only [evr, id, seval, ent0, ent1, ent2, ent3, ent4, Nat.sub_zero, int_at, intRowA, evn]
    (refine hk _ ?_; clear hk k; try show Sat _ _ _ _ _)
    refine Sat.cond_b rfl (fun h4 => ?_) (fun h4 => ?_)
    · rw [if_pos h4] at hst
      (repeat refine Sat.seq ?_)
      (refine Sat.region_rows [⟨0, 27, 1, 0⟩, ⟨0, 28, 16, 0⟩, ⟨2, 29, 134217728, 1⟩, ⟨0, 30, 128, 0⟩, ⟨12, 31, 805306368, 0⟩, ⟨16, 32, 1073741824, 0⟩, ⟨32, 33, 2147483648, 1⟩, ⟨0, 34, 16, 0⟩, ⟨128, 35, 8589934592, 1⟩, ⟨0, 36, 128, 0⟩, ⟨768, 37, 51539607552, 0⟩, ⟨1024, 38, 68719476736, 0⟩, ⟨2048, 39, 137438953472, 1⟩, ⟨4160, 40, 279172874240, 2⟩, ⟨8193, 41, 549822922752, 2⟩, ⟨32767, 1, 1099511627776, 0⟩] [0, 1, 3, 7, 9, 2, 8, 4, 5, 10, 11, 6, 12] [(13, false), (14, false), (15, false)] [] (by kernel_rfl) (by kernel_rfl) (fun _ _ h => h) fun k hk => ?_; simp only [List.map_cons, List.map_nil, List.getD_cons_zero, List.getD_cons_succ, btseq_cons, btseq_free, btseq_nil]; simp -implicitDefEqProofs only [evr, id, seval, ent0, ent1, ent2, ent3, ent4, Nat.sub_zero, int_at, intRowA, evn])
      refine ⟨by omega, by omega, fun bl => ⟨⟨by unfold maxLen; omega, by omega⟩, fun a7 c7 => ?_⟩⟩
      refine hk _ ?_
      simp only [thenK, blockK]
      refine Sat.region_k fun k hk => ?_
      simp -implicitDefEqProofs only [evr, id, seval, ent0, ent1, ent2, ent3, ent4, Nat.sub_zero, int_at, intRowA, e3, evn]
      refine hk _ ?_
      simp only [thenK, blockK]
      refine ⟨(i + 1, a7, c7, ys ++ [(es.getD i default).from_, (es.getD i default).to_]), ⟨by simp only; omega, by simp only; rw [hst, hy]; simp [List.append_assoc]⟩, by simp only; omega, ?_⟩
      have e7 : (ys ++ [(es.getD i default).from_, (es.getD i default).to_]).length = ys.length + 2 := by simp
      rw [e7]
      simp -implicitDefEqProofs only [evr, id, seval, ent0, ent1, ent2, ent3, ent4, Nat.sub_zero, int_at, intRowA, evl, evn]
      exact ints_cat2 ys (es.getD i default).from_ (es.getD i default).to_
    · rw [if_neg (by rw [h4]; decide), List.append_nil] at hst
      refine Sat.skip ?_
      simp only [thenK, blockK]
      refine Sat.region_k fun k hk => ?_
      simp -implicitDefEqProofs only [evr, id, seval, ent0, ent1, ent2, ent3, ent4, Nat.sub_zero, int_at, intRowA, e3, evn]
      refine hk _ ?_
      simp only [thenK, blockK]
      refine ⟨(i + 1, a5, c5, ys), ⟨by simp only; omega, by simp only; rw [hst, hy]⟩, by simp only; omega, ?_⟩
      simp -implicitDefEqProofs only [evr, id, seval, ent0, ent1, ent2, ent3, ent4, Nat.sub_zero, int_at, intRowA, evl, evn]
  · simp only [decide_eq_false_iff_not] at h3
    obtain rfl : i = es.length := by omega
    rw [List.take_length] at hy
    refine Sat.exit ?_
    simp only [thenK, blockK, reduceIte]
    (repeat refine Sat.seq ?_)
    (refine Sat.region_k fun k hk => ?_; simp -implicitDefEqProofs only [evr, id, seval, ent0, ent1, ent2, ent3, ent4, Nat.sub_zero, int_at, intRowA, evn])
    refine wcall_new (refSortedC F a5 c5 ys (by omega)) rfl (by simp -implicitDefEqProofs only [evr, id, seval, ent0, ent1, ent2, ent3, ent4, Nat.sub_zero, int_at, intRowA, evn]) ?_
    rintro ra ty len rc sz rrd ⟨ra', rc', zs, hs, hzl, e9⟩
    simp only [intRowA, Own.row.injEq] at e9
    obtain ⟨rfl, rfl, rfl, rfl, rfl, rfl⟩ := e9
    rw [hy] at hs
    simp -implicitDefEqProofs only [evr, id, seval, ent0, ent1, ent2, ent3, ent4, Nat.sub_zero, int_at, intRowA, evn]
    (refine hk _ ?_; clear hk k; try show Sat _ _ _ _ _)
    refine Sat.ret ?_
    simp only [Tryz.results45, evr, id, seval, List.append_nil, Int.toNat_zero, Nat.sub_self, ent0, ent1, ent2, ent3, ent4, Nat.sub_zero, int_at, intRowA, retN, retNK, newRow]
    have hz : zs = timesL a [⟨ad, cap, es⟩] := Srt.one (p := ⟨ad, cap, es⟩) hs
    subst hz
    exact ⟨⟨rfl, rfl, rfl⟩, _, _, rfl⟩
set_option maxRecDepth 100000 in
theorem refTimesL (F : Frm) (a0 : Option Addr) (c0 : Nat) (l0 : List Int) (hl0 : l0.length ≤ 5000) (ad : Option Addr) (cap : Nat) (es : List Ent) (h : esOk es) (hn : es.length ≤ 2000) (a : Nat) (ha : a < 2 ^ 32) :
    ContractL F Tryz.prog 45 [.os 0 a0 l0.length c0, regS ad cap es, .i .u32 a] [.row a0 3 l0.length c0 1 (intsA l0.toArray)] (fun r os => ∃ o0 o1 a2 c zs, Srt (l0 ++ ([0, 1125899906842624] ++ ftL a es)) zs ∧ zs.length ≤ 10000 ∧ r = .os 2 a2 zs.length c ∧ os = [o0, o1, intRowA a2 zs.length c zs.toArray]) := by
  refine contractL_of Tryz.func45 rfl (by kernel_rfl) ?_
  simp only [Tryz.ntmps45, argEnv, regS]
  (repeat refine Sat.seq ?_)
  (refine Sat.region_k fun k hk => ?_; simp -implicitDefEqProofs only [evr, id, seval, ent0, ent1, ent2, ent3, ent4, Nat.sub_zero, int_at, intRowA, evn])
  intro b4
  (refine hk _ ?_; clear hk k; try show Sat _ _ _ _ _)
  (repeat refine Sat.seq ?_)
  (refine Sat.region_k fun k hk => ?_; simp -implicitDefEqProofs only [evr, id, seval, ent0, ent1, ent2, ent3, ent4, Nat.sub_zero, int_at, intRowA, evn])
  refine fun bl => ⟨⟨by unfold maxLen; omega, by omega⟩, fun a1 c1 => ?_⟩
  (refine hk _ ?_; clear hk k; try show Sat _ _ _ _ _)
  (repeat refine Sat.seq ?_)
  (refine Sat.region_k fun k hk => ?_; simp -implicitDefEqProofs only [evr, id, seval, ent0, ent1, ent2, ent3, ent4, Nat.sub_zero, int_at, intRowA, evn]; refine hk _ ?_; clear hk k; try show Sat _ _ _ _ _)
  (repeat refine Sat.seq ?_)
  refine Sat.block ?_
  refine Sat.loop (ι := Nat × Option Addr × Nat × List Int) (fun x => ⟨43, [(7, .i .i64 x.1), (0, .os 0 x.2.1 x.2.2.2.length x.2.2.1), (2, .i .u32 a), (4, .op 1 b4 0)], [.row x.2.1 3 x.2.2.2.length x.2.2.1 1 (intsA x.2.2.2.toArray), .box b4 25 [.sl ad es.length cap 5 (entRd es)]]⟩)
    (fun x => x.1 ≤ es.length ∧ x.2.2.2 = (l0 ++ ([0, 1125899906842624] ++ ftL a (es.take x.1)))) (fun x => es.length - x.1) (0, a1, c1, l0 ++ [0, 1125899906842624]) ⟨Nat.zero_le _, by simp [ftL]⟩ (by
      have e7 : (l0 ++ [0, 1125899906842624]).length = l0.length + 2 := by simp
      rw [e7]
      simp -implicitDefEqProofs only [evr, id, seval, ent0, ent1, ent2, ent3, ent4, Nat.sub_zero, int_at, intRowA, evl, evn]
      exact ints_cat2 l0 0 1125899906842624) ?_
  rintro ⟨i, a5, c5, ys⟩ ⟨hi, hy⟩
  simp only at hi hy ⊢
  have hyb : ys.length ≤ 9002 := by
    have := ftL_len a (es.take i)
    rw [List.length_take] at this
    rw [hy]
    simp only [List.length_append, List.length_cons, List.length_nil]
    omega
  (repeat refine Sat.seq ?_)
  (refine Sat.region_k fun k hk => ?_; simp -implicitDefEqProofs only [evr, id, seval, ent0, ent1, ent2, ent3, ent4, Nat.sub_zero, int_at, intRowA, evn]; refine hk _ ?_; clear hk k; try show Sat _ _ _ _ _)
  (repeat refine Sat.seq ?_)
  refine Sat.cond_b rfl (fun h3 => ?_) (fun h3 => ?_)
  · simp only [decide_eq_true_eq] at h3
    have hlt3 : i < es.length := by omega
    have e3 : IntKind.i64.wrap ((i : Int) + 1) = ((i + 1 : Nat) : Int) := by rw [w64 (by omega)]; omega
    have hst := ftL_take a es i hlt3
    have heok : eOk (es.getD i default) := esOk_at h i
    refine Sat.skip ?_
    simp only [thenK]
    (repeat refine Sat.seq ?_)
    refine Sat.block ?_
    (repeat refine Sat.seq ?_)
    (refine Sat.region_k fun k hk => ?_; simp -implicitDefEqProofs only [evr, id, seval, ent0, ent1, ent2, ent3, ent4, Nat.sub_zero, int_at, intRowA, evn])
    refine ⟨by omega, ?_⟩
    refine wcall_plain ((rfContainsC F (es.getD i default).pr heok a ha).of_sim (args := [.agg 2 fun j => entRd es i j, .i .u32 a]) ⟨sim_agg2 (sim_refl _) (sim_refl _), sim_refl _, trivial⟩) (by simp -implicitDefEqProofs only [evr, id, seval, ent0, ent1, ent2, ent3, ent4, Nat.sub_zero, int_at, intRowA, evn]) (by rintro _ rfl; exact ok_plain rfl) ?_
    rintro r rfl
    simp -implicitDefEqProofs only [evr, id, seval, ent0, ent1, ent2, ent3, ent4, Nat.sub_zero, int_at, intRowA, evn]
    (refine hk _ ?_; clear hk k; try show Sat _ _ _ _ _)
    refine Sat.cond_b rfl (fun h4 => ?_) (fun h4 => ?_)
    · rw [if_pos h4] at hst
      (repeat refine Sat.seq ?_)
      (refine Sat.region_rows [⟨0, 27, 1, 0⟩, ⟨0, 28, 16, 0⟩, ⟨2, 29, 134217728, 1⟩, ⟨0, 30, 128, 0⟩, ⟨12, 31, 805306368, 0⟩, ⟨16, 32, 1073741824, 0⟩, ⟨32, 33, 2147483648, 1⟩, ⟨0, 34, 16, 0⟩, ⟨128, 35, 8589934592, 1⟩, ⟨0, 36, 128, 0⟩, ⟨768, 37, 51539607552, 0⟩, ⟨1024, 38, 68719476736, 0⟩, ⟨2048, 39, 137438953472, 1⟩, ⟨4160, 40, 279172874240, 2⟩, ⟨8193, 41, 549822922752, 2⟩, ⟨32767, 1, 1099511627776, 0⟩] [0, 1, 3, 7, 9, 2, 8, 4, 5, 10, 11, 6, 12] [(13, false), (14, false), (15, false)] [] (by kernel_rfl) (by kernel_rfl) (fun _ _ h => h) fun k hk => ?_; simp only [List.map_cons, List.map_nil, List.getD_cons_zero, List.getD_cons_succ, btseq_cons, btseq_free, btseq_nil]; simp -implicitDefEqProofs only [evr, id, seval, ent0, ent1, ent2, ent3, ent4, Nat.sub_zero, int_at, intRowA, evn])
      refine ⟨by omega, by omega, fun bl => ⟨⟨by unfold maxLen; omega, by omega⟩, fun a7 c7 => ?_⟩⟩
      refine hk _ ?_
      simp only [thenK, blockK]
      refine Sat.region_k fun k hk => ?_
      simp -implicitDefEqProofs only [evr, id, seval, ent0, ent1, ent2, ent3, ent4, Nat.sub_zero, int_at, intRowA, e3, evn]
      refine hk _ ?_
      simp only [thenK, blockK]
      refine ⟨(i + 1, a7, c7, ys ++ [(es.getD i default).from_, (es.getD i default).to_]), ⟨by simp only; omega, by simp only; rw [hst, hy]; simp [List.append_assoc]⟩, by simp only; omega, ?_⟩
      have e7 : (ys ++ [(es.getD i default).from_, (es.getD i default).to_]).length = ys.length + 2 := by simp
      rw [e7]
      simp -implicitDefEqProofs only [evr, id, seval, ent0, ent1, ent2, ent3, ent4, Nat.sub_zero, int_at, intRowA, evl, evn]
      exact ints_cat2 ys (es.getD i default).from_ (es.getD i default).to_
    · rw [if_neg (by rw [h4]; decide), List.append_nil] at hst
      refine Sat.skip ?_
      simp only [thenK, blockK]
      refine Sat.region_k fun k hk => ?_
      simp -implicitDefEqProofs only [evr, id, seval, ent0, ent1, ent2, ent3, ent4, Nat.sub_zero, int_at, intRowA, e3, evn]
      refine hk _ ?_
      simp only [thenK, blockK]
      refine ⟨(i + 1, a5, c5, ys), ⟨by simp only; omega, by simp only; rw [hst, hy]⟩, by simp only; omega, ?_⟩
      simp -implicitDefEqProofs only [evr, id, seval, ent0, ent1, ent2, ent3, ent4, Nat.sub_zero, int_at, intRowA, evl, evn]
  · simp only [decide_eq_false_iff_not] at h3
    obtain rfl : i = es.length := by omega
    rw [List.take_length] at hy
    refine Sat.exit ?_
    simp only [thenK, blockK, reduceIte]
    (repeat refine Sat.seq ?_)
    (refine Sat.region_k fun k hk => ?_; simp -implicitDefEqProofs only [evr, id, seval, ent0, ent1, ent2, ent3, ent4, Nat.sub_zero, int_at, intRowA, evn])
    refine wcall_new (refSortedC F a5 c5 ys (by omega)) rfl (by simp -implicitDefEqProofs only [evr, id, seval, ent0, ent1, ent2, ent3, ent4, Nat.sub_zero, int_at, intRowA, evn]) ?_
    rintro ra ty len rc sz rrd ⟨ra', rc', zs, hs, hzl, e9⟩
    simp only [intRowA, Own.row.injEq] at e9
    obtain ⟨rfl, rfl, rfl, rfl, rfl, rfl⟩ := e9
    rw [hy] at hs
    simp -implicitDefEqProofs only [evr, id, seval, ent0, ent1, ent2, ent3, ent4, Nat.sub_zero, int_at, intRowA, evn]
    (refine hk _ ?_; clear hk k; try show Sat _ _ _ _ _)
    refine Sat.ret ?_
    simp only [Tryz.results45, evr, id, seval, List.append_nil, Int.toNat_zero, Nat.sub_self, ent0, ent1, ent2, ent3, ent4, Nat.sub_zero, int_at, intRowA, retL, retLK, resL, lfA, lf]
    exact ⟨_, [], (List.append_nil _).symm, by simp, _, _, _, _, zs, hs, by omega, rfl, rfl⟩
end Go.Proofs.YtepkbbmjbbnhnaaGreatDoor
