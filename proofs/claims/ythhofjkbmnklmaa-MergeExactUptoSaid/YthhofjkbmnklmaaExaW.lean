/- It is proved that the statement MergeExact holds for every input that holds at most 1048576 values and letters (its form Upto): all functions of package merge answer as the document's definition says. Conditions: that bound, of the given statement itself. -/
import Derived.Test.YthhofjkbmnklmaaPk1
set_option linter.unusedSimpArgs false
set_option linter.unusedVariables false
set_option maxRecDepth 100000
namespace Go.Proofs.Ythhofjkbmnklmaa
open Eng Go.RowKit Go.WideShapes Go.ChangeShapes

theorem sh_fields {P : Program} {D : Nat} {t : TypeId} {ps : List (Nat × TypeId)} {l : List SV} (hu : P.underlying t = some (.struct (P.fieldsOf t))) (hm : (P.fieldsOf t).toList.map (fun f => (f.offset, f.type)) = ps) (h : Sh P (D + 1) t l) :
    l.length = P.cellsOf t ∧ ∀ p ∈ ps, Sh P D p.2 ((l.drop p.1).take (P.cellsOf p.2)) := by
  obtain ⟨h1, h2⟩ := sh_struct hu h
  refine ⟨h1, fun p hp => ?_⟩
  rw [← hm] at hp
  obtain ⟨f, hf, rfl⟩ := List.mem_map.1 hp
  exact h2 f hf

theorem ans_of_sh {D : Nat} {l : List SV} (h : Sh Try.prog (D + 2) 37 l) : ∃ a b c d e f : Int, l = [.i .u32 a, .i .i64 b, .i .i64 c, .i .i64 d, .i .i64 e, .i .i64 f] ∧ u32 a := by
  obtain ⟨h1, h2⟩ := sh_fields (ps := [(0, 35), (1, 3), (2, 3), (3, 3), (4, 3), (5, 3)]) (by kernel_rfl) (by kernel_rfl) h
  have hc : Try.prog.cellsOf 37 = 6 := by kernel_rfl
  have c1 : Try.prog.cellsOf 3 = 1 := by kernel_rfl
  have c2 : Try.prog.cellsOf 35 = 1 := by kernel_rfl
  rw [hc] at h1
  match l, h1 with
  | [x0, x1, x2, x3, x4, x5], _ =>
    have g0 := h2 (0, 35) (by simp)
    have g1 := h2 (1, 3) (by simp)
    have g2 := h2 (2, 3) (by simp)
    have g3 := h2 (3, 3) (by simp)
    have g4 := h2 (4, 3) (by simp)
    have g5 := h2 (5, 3) (by simp)
    simp only [c1, c2] at g0 g1 g2 g3 g4 g5
    obtain ⟨n0, e0, w0⟩ := sh_int (k := .u32) (by kernel_rfl) g0
    obtain ⟨n1, e1, w1⟩ := sh_int (k := .i64) (by kernel_rfl) g1
    obtain ⟨n2, e2, w2⟩ := sh_int (k := .i64) (by kernel_rfl) g2
    obtain ⟨n3, e3, w3⟩ := sh_int (k := .i64) (by kernel_rfl) g3
    obtain ⟨n4, e4, w4⟩ := sh_int (k := .i64) (by kernel_rfl) g4
    obtain ⟨n5, e5, w5⟩ := sh_int (k := .i64) (by kernel_rfl) g5
    simp at e0 e1 e2 e3 e4 e5
    subst e0 e1 e2 e3 e4 e5
    exact ⟨n0, n1, n2, n3, n4, n5, rfl, by have := bounds_u32 w0; unfold u32; omega⟩

theorem res_of_sh {D : Nat} {l : List SV} (h : Sh Try.prog (D + 3) 39 l) : ∃ s : Res, l = s.cs ∧ wfR s := by
  obtain ⟨h1, h2⟩ := sh_fields (ps := [(0, 3), (1, 3), (2, 3), (3, 3), (4, 35), (5, 3), (6, 3), (7, 3), (8, 4), (9, 4), (10, 3), (11, 37)]) (by kernel_rfl) (by kernel_rfl) h
  have hc : Try.prog.cellsOf 39 = 17 := by kernel_rfl
  have c1 : Try.prog.cellsOf 3 = 1 := by kernel_rfl
  have c2 : Try.prog.cellsOf 35 = 1 := by kernel_rfl
  have c3 : Try.prog.cellsOf 4 = 1 := by kernel_rfl
  have c4 : Try.prog.cellsOf 37 = 6 := by kernel_rfl
  rw [hc] at h1
  match l, h1 with
  | [x0, x1, x2, x3, x4, x5, x6, x7, x8, x9, x10, x11, x12, x13, x14, x15, x16], _ =>
    have g0 := h2 (0, 3) (by simp)
    have g1 := h2 (1, 3) (by simp)
    have g2 := h2 (2, 3) (by simp)
    have g3 := h2 (3, 3) (by simp)
    have g4 := h2 (4, 35) (by simp)
    have g5 := h2 (5, 3) (by simp)
    have g6 := h2 (6, 3) (by simp)
    have g7 := h2 (7, 3) (by simp)
    have g8 := h2 (8, 4) (by simp)
    have g9 := h2 (9, 4) (by simp)
    have g10 := h2 (10, 3) (by simp)
    have g11 := h2 (11, 37) (by simp)
    simp only [c1, c2, c3, c4] at g0 g1 g2 g3 g4 g5 g6 g7 g8 g9 g10 g11
    obtain ⟨n0, e0, w0⟩ := sh_int (k := .i64) (by kernel_rfl) g0
    obtain ⟨n1, e1, w1⟩ := sh_int (k := .i64) (by kernel_rfl) g1
    obtain ⟨n2, e2, w2⟩ := sh_int (k := .i64) (by kernel_rfl) g2
    obtain ⟨n3, e3, w3⟩ := sh_int (k := .i64) (by kernel_rfl) g3
    obtain ⟨n4, e4, w4⟩ := sh_int (k := .u32) (by kernel_rfl) g4
    obtain ⟨n5, e5, w5⟩ := sh_int (k := .i64) (by kernel_rfl) g5
    obtain ⟨n6, e6, w6⟩ := sh_int (k := .i64) (by kernel_rfl) g6
    obtain ⟨n7, e7, w7⟩ := sh_int (k := .i64) (by kernel_rfl) g7
    obtain ⟨n8, e8⟩ := sh_bool (by kernel_rfl) g8
    obtain ⟨n9, e9⟩ := sh_bool (by kernel_rfl) g9
    obtain ⟨n10, e10, w10⟩ := sh_int (k := .i64) (by kernel_rfl) g10
    obtain ⟨a, b, c, d, e, f, e11, w11⟩ := ans_of_sh g11
    simp at e0 e1 e2 e3 e4 e5 e6 e7 e8 e9 e10 e11
    obtain ⟨q1, q2, q3, q4, q5, q6⟩ := e11
    subst e0 e1 e2 e3 e4 e5 e6 e7 e8 e9 e10 q1 q2 q3 q4 q5 q6
    exact ⟨⟨n0, n1, n2, n3, n4, n5, n6, n7, n8, n9, n10, a, b, c, d, e, f⟩, rfl, by have := bounds_u32 w4; show u32 n4; unfold u32; omega, w11⟩

theorem res_rd {n : Nat} {rd : Nat → Nat → SV} (xs : List Res) (h : rdEq xs.length 17 rd fun i j => (Res.cs (xs.getD i default)).getD j default) : rdEq xs.length 17 rd (resRd xs.toArray) := fun i j hi hj => by
  rw [h i j hi hj]
  unfold resRd
  rw [List.getElem!_toArray]
  simp [List.getD, getElem!_def, hi]
theorem wt_sl (a : Option Addr) (len cap sz : Nat) (rd : Nat → Nat → SV) : len ≤ (SV.sl a len cap sz rd).wt := by
  unfold SV.wt
  have : ∀ (l : List Nat) (g : Nat → Nat), l.length ≤ (l.map fun i => 1 + g i).sum := by
    intro l g
    induction l with
    | nil => simp
    | cons x l ih => simp only [List.length_cons, List.map_cons, List.sum_cons]; omega
  have h := this (List.range len) fun i => ((List.range sz).map fun j => SV.wt (rd i j)).sum
  simpa using h
theorem cft_of_sh {D : Nat} {l : List SV} (h : Sh Try.prog (D + 5) 59 l) : ∃ x : CftP, simA l (cftCs x) ∧ (∀ r ∈ x.c.l, wfR r) ∧ x.c.l.length ≤ (l.map SV.wt).sum := by
  obtain ⟨h1, h2⟩ := sh_fields (ps := [(0, 3), (1, 3), (2, 3), (3, 26)]) (by kernel_rfl) (by kernel_rfl) h
  have hc : Try.prog.cellsOf 59 = 4 := by kernel_rfl
  have c1 : Try.prog.cellsOf 3 = 1 := by kernel_rfl
  have c2 : Try.prog.cellsOf 26 = 1 := by kernel_rfl
  rw [hc] at h1
  match l, h1 with
  | [x0, x1, x2, x3], _ =>
    have g0 := h2 (0, 3) (by simp)
    have g1 := h2 (1, 3) (by simp)
    have g2 := h2 (2, 3) (by simp)
    have g3 := h2 (3, 26) (by simp)
    simp only [c1, c2] at g0 g1 g2 g3
    obtain ⟨n0, e0, w0⟩ := sh_int (k := .i64) (by kernel_rfl) g0
    obtain ⟨n1, e1, w1⟩ := sh_int (k := .i64) (by kernel_rfl) g1
    obtain ⟨n2, e2, w2⟩ := sh_int (k := .i64) (by kernel_rfl) g2
    obtain ⟨a, cap, xs, rd, e3, w3, hr⟩ := sh_slice Res.cs wfR (sz := 17) (e := 39) (by kernel_rfl) (by kernel_rfl) (fun l h => res_of_sh h) g3
    simp at e0 e1 e2 e3
    subst e0 e1 e2 e3
    refine ⟨⟨⟨n0, n1, n2, xs⟩, a, cap⟩, ⟨sim_refl _, sim_refl _, sim_refl _, sim_sl (res_rd (n := 0) xs hr), trivial⟩, w3, ?_⟩
    have := wt_sl a xs.length cap 17 rd
    simp only [List.map_cons, List.map_nil, List.sum_cons, List.sum_nil]
    omega

theorem simA_get : ∀ {l l' : List SV}, simA l l' → ∀ j, j < l.length → sim (l.getD j default) (l'.getD j default)
  | [], [], _, j, h => by simp at h
  | [], _ :: _, h, _, _ => h.elim
  | _ :: _, [], h, _, _ => h.elim
  | s :: l, s' :: l', h, j, hj => by
    cases j with
    | zero => exact h.1
    | succ j => exact simA_get h.2 j (by simpa using hj)
/-- a slice, whose elements read as others do -/
theorem sim_sls {a : Option Addr} {len cap sz : Nat} {rd rd' : Nat → Nat → SV} (h : ∀ i j, i < len → j < sz → sim (rd i j) (rd' i j)) : sim (.sl a len cap sz rd) (.sl a len cap sz rd') := by
  refine ⟨rfl, fun R w ⟨h1, h2, h3⟩ => ⟨h1, h2, ?_⟩⟩
  rcases h3 with h3 | ⟨blk, off, ha, hR, hc⟩
  · exact .inl h3
  · refine .inr ⟨blk, off, ha, hR, fun i j hi hj => ?_⟩
    obtain ⟨g1, g2, g3⟩ := hc i j hi hj
    obtain ⟨k1, k2⟩ := h i j hi hj
    exact ⟨by rw [← k1]; exact g1, by rw [← k1]; exact g2, k2 R w g3⟩
theorem sum_range_le : ∀ (cs : List CftP) (g : Nat → Nat), (∀ i, i < cs.length → (cs.getD i default).c.l.length ≤ g i) → lens cs ≤ ((List.range cs.length).map fun i => 1 + g i).sum
  | [], g, _ => by simp [lens]
  | x :: cs, g, h => by
    have ih := sum_range_le cs (fun i => g (i + 1)) fun i hi => h (i + 1) (by simp only [List.length_cons]; omega)
    have h0 := h 0 (by simp)
    simp only [List.getD_cons_zero] at h0
    simp only [lens, List.map_cons, List.sum_cons, List.length_cons, List.range_succ_eq_map, List.map_map] at ih ⊢
    have e : ((fun i => 1 + g i) ∘ Nat.succ) = fun i => 1 + g (i + 1) := rfl
    rw [e]
    omega

theorem led_of_sh {l : List SV} (h : Sh Try.prog 8 30 l) : ∃ p : LedP, simA l (ledC p) ∧ (∀ r ∈ p.led.all, wfR r) ∧ p.led.size ≤ (l.map SV.wt).sum ∧ p.cs.length ≤ (l.map SV.wt).sum := by
  obtain ⟨h1, h2⟩ := sh_fields (D := 7) (ps := [(0, 26), (1, 28)]) (by kernel_rfl) (by kernel_rfl) h
  have hc : Try.prog.cellsOf 30 = 2 := by kernel_rfl
  have c1 : Try.prog.cellsOf 26 = 1 := by kernel_rfl
  have c2 : Try.prog.cellsOf 28 = 1 := by kernel_rfl
  rw [hc] at h1
  match l, h1 with
  | [x0, x1], _ =>
    have g0 := h2 (0, 26) (by simp)
    have g1 := h2 (1, 28) (by simp)
    simp only [c1, c2, List.drop_zero, List.drop_succ_cons, List.take_succ_cons, List.take_zero] at g0 g1
    obtain ⟨a0, k0, rs, rd0, e0, w0, hr0⟩ := sh_slice (D := 6) Res.cs wfR (sz := 17) (e := 39) (by kernel_rfl) (by kernel_rfl) (fun l h => res_of_sh h) g0
    obtain ⟨a1, len, k1, rd1, e1, hel⟩ : ∃ a len cap rd, [x1] = [SV.sl a len cap (Try.prog.cellsOf 59) rd] ∧ ∀ i, i < len → Sh Try.prog 6 59 ((List.range (Try.prog.cellsOf 59)).map (rd i)) := by
      have hu : Try.prog.underlying 28 = some (.slice 59) := by kernel_rfl
      unfold Sh at g1
      rw [hu] at g1
      exact g1
    have c4 : Try.prog.cellsOf 59 = 4 := by kernel_rfl
    rw [c4] at e1 hel
    simp only [List.cons.injEq, and_true] at e0 e1
    subst e0 e1
    have pick : ∀ i, ∃ x : CftP, i < len → simA ((List.range 4).map (rd1 i)) (cftCs x) ∧ (∀ r ∈ x.c.l, wfR r) ∧ x.c.l.length ≤ (((List.range 4).map (rd1 i)).map SV.wt).sum := fun i => by
      by_cases hi : i < len
      · obtain ⟨x, hx⟩ := cft_of_sh (D := 1) (hel i hi)
        exact ⟨x, fun _ => hx⟩
      · exact ⟨default, fun h => absurd h hi⟩
    obtain ⟨f, hf⟩ := Classical.axiomOfChoice pick
    have hlen : ((List.range len).map f).length = len := by simp
    have hget : ∀ i, i < len → ((List.range len).map f).getD i default = f i := fun i hi => by simp [List.getD, hi]
    have hw1 := wt_sl a0 rs.length k0 17 rd0
    have hw2 := wt_sl a1 len k1 4 rd1
    have hl : lens ((List.range len).map f) ≤ (SV.sl a1 len k1 4 rd1).wt := by
      have := sum_range_le ((List.range len).map f) (fun i => ((List.range 4).map fun j => SV.wt (rd1 i j)).sum) (fun i hi => by
        rw [hlen] at hi
        rw [hget i hi]
        have := (hf i hi).2.2
        rw [List.map_map] at this
        exact this)
      rw [hlen] at this
      unfold SV.wt
      exact this
    refine ⟨⟨a0, k0, rs, a1, k1, (List.range len).map f⟩, ⟨sim_sl (res_rd (n := 0) rs hr0), ?_, trivial⟩, ?_, ?_, ?_⟩
    · rw [hlen]
      refine sim_sls fun i j hi hj => ?_
      unfold cftRd
      rw [hget i hi]
      have := simA_get (hf i hi).1 j (by simpa using hj)
      simpa [List.getD, hj] using this
    · intro r hr
      rw [all_eq] at hr
      rcases List.mem_append.1 hr with hr | hr
      · exact w0 r hr
      · unfold flatC at hr
        obtain ⟨y, hy, hr⟩ := List.mem_flatten.1 hr
        obtain ⟨x, hx, rfl⟩ := List.mem_map.1 hy
        obtain ⟨i, hi, rfl⟩ := List.mem_map.1 hx
        exact (hf i (List.mem_range.1 hi)).2.1 r hr
    · rw [size_eq]
      simp only [List.map_cons, List.map_nil, List.sum_cons, List.sum_nil]
      omega
    · simp only [hlen, List.map_cons, List.map_nil, List.sum_cons, List.sum_nil]
      omega

theorem valS_agg {P : Program} {t : TypeId} {l : List SV} (h : (match P.underlying t with | some (.struct _) => true | _ => false) = true) : valS P t l = .agg l.length fun j => l.getD j default := by
  unfold valS
  split
  · rfl
  · rename_i hu
    split at h
    · rename_i h9; exact absurd h9 (hu _)
    · cases h
theorem exact_walk : mergeExact.Walk := by
  intro w l0 l1 l2 l3 l4 c0 s0 o0 c1 s1 o1 c2 s2 o2 c3 s3 o3 c4 s4 o4 b0 b1 b2 b3 b4
  obtain ⟨a, cap, z, rd, rfl, hz, hrd⟩ := sh_ints (e := 5) (k := .u8) (by kernel_rfl) (by kernel_rfl) (by kernel_rfl) s0
  obtain ⟨p, hp, hwp, hsz, hcs⟩ := led_of_sh s1
  obtain ⟨u, rfl, hu⟩ := res_of_sh s2
  obtain ⟨v, rfl, hv⟩ := res_of_sh s3
  obtain ⟨n4, rfl, w4⟩ := sh_int (k := .i64) (by kernel_rfl) s4
  have e1 : valS Try.prog 30 l1 = .agg l1.length fun j => l1.getD j default := valS_agg (by kernel_rfl)
  have e2 : valS Try.prog 39 u.cs = resAg u := valS_agg (by kernel_rfl)
  have e3 : valS Try.prog 39 v.cs = resAg v := valS_agg (by kernel_rfl)
  rw [valS_one (by kernel_rfl)] at o0 o4
  rw [e1] at o1
  rw [e2] at o2
  rw [e3] at o3
  rw [valS_one (by kernel_rfl), valS_one (by kernel_rfl), e1, e2, e3]
  have hc := exactC a cap z hz p (by omega) (by omega) hwp u v hu hv n4
  have hc' : Contract Frm.nil Try.prog 8 [.sl a z.length cap 1 rd, .agg l1.length fun j => l1.getD j default, resAg u, resAg v, .i .i64 n4] (fun r => r = .b true) := by
    refine Contract.of_sim hc ⟨sim_sl hrd, ?_, sim_refl _, sim_refl _, sim_refl _, trivial⟩
    match l1, hp with
    | [x0, x1], hp => exact sim_agg2 hp.1 hp.2.1
  exact walk_of hc' (by
    intro s hs
    simp only [List.mem_cons, List.mem_singleton, List.not_mem_nil, or_false] at hs
    rcases hs with rfl | rfl | rfl | rfl | rfl <;> assumption)

theorem exact_holds : Rows.MergeExactUptoSaid := mergeExact.of_walk exact_walk
end Go.Proofs.Ythhofjkbmnklmaa
