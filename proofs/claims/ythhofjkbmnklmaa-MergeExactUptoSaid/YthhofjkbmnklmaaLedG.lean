/- Ledgers, by the evaluator: merge.ledger. -/
import Derived.Test.YthhofjkbmnklmaaLedF
import Derived.Test.YthhofjkbmnklmaaCmpE
import Derived.Test.YthhofjkbmnklmaaResSrt7
set_option linter.unusedSimpArgs false
set_option linter.unusedVariables false
namespace Go.Proofs.Ythhofjkbmnklmaa
open Go.Sort Eng

theorem res_drop (l : List Res) (n : Nat) : (fun i j => resRd l.toArray (n + i) j) = resRd (l.drop n).toArray := by
  funext i j
  unfold resRd
  simp [getElem!_def, List.getElem?_drop]
theorem res_take (l : List Res) (n : Nat) : rdEq n 17 (fun i j => resRd l.toArray i j) (resRd (l.take n).toArray) := by
  intro i j hi hj
  unfold resRd
  simp [getElem!_def, List.getElem?_take, hi]
theorem res_app1 {xs : List Res} {d : Array Res} {q : Nat} {l17 : List SV} (h : l17 = (List.range 17).map (resRd d q)) : rdEq (xs.length + 1) 17 (rdCat xs.length (resRd xs.toArray) (rdL l17 17)) (resRd (xs ++ [d[q]!]).toArray) := by
  subst h
  intro i j hi hj
  unfold rdCat
  by_cases h : i < xs.length
  · rw [if_pos h]
    unfold resRd
    simp [getElem!_def, List.getElem?_append, h]
  · rw [if_neg h]
    have e : i = xs.length := by omega
    subst e
    unfold rdL
    simp only [Nat.sub_self, Nat.zero_mul, Nat.zero_add]
    have hg : ((List.range 17).map (resRd d q)).getD j default = resRd d q j := by simp [List.getD, hj]
    rw [hg]
    unfold resRd
    congr 2
    simp [getElem!_def]
theorem cft_app1 (cs : List CftP) (x : CftP) : rdEq (cs.length + 1) 4 (rdCat cs.length (cftRd cs) (rdL (cftCs x) 4)) (cftRd (cs ++ [x])) := by
  intro i j hi hj
  unfold rdCat
  by_cases h : i < cs.length
  · rw [if_pos h]
    unfold cftRd
    simp [List.getD, List.getElem?_append, h]
  · rw [if_neg h]
    have e : i = cs.length := by omega
    subst e
    unfold rdL cftRd
    simp [List.getD]

theorem takeWhile_at {p : Res → Bool} : ∀ (t : List Res) (m : Nat), m ≤ t.length → (∀ q, q < m → p (t[q]!) = true) → (m = t.length ∨ p (t[m]!) = false) → t.takeWhile p = t.take m ∧ t.dropWhile p = t.drop m
  | [], m, h, _, _ => by simp
  | x :: t, 0, _, _, h => by
    rcases h with h | h
    · simp at h
    · have hx : p x = false := by simpa using h
      simp [List.takeWhile_cons, List.dropWhile_cons, hx]
  | x :: t, m + 1, hm, h1, h2 => by
    have hx : p x = true := by simpa using h1 0 (by omega)
    obtain ⟨g1, g2⟩ := takeWhile_at t m (by simpa using hm) (fun q hq => by simpa using h1 (q + 1) (by omega)) (by
      rcases h2 with h2 | h2
      · left; simpa using h2
      · right; simpa using h2)
    simp [List.takeWhile_cons, List.dropWhile_cons, hx, g1, g2]
theorem grp_step {l : List Res} {n : Nat} (h1 : 1 ≤ n) (h2 : n ≤ l.length) (h3 : ∀ q, 1 ≤ q → q < n → sameId l[0]! l[q]! = true) (h4 : n = l.length ∨ sameId l[0]! l[n]! = false) : grp l = l.take n :: grp (l.drop n) := by
  match l, h2 with
  | [], h2 => simp at h2; omega
  | x :: t, h2 =>
    obtain ⟨m, rfl⟩ : ∃ m, n = m + 1 := ⟨n - 1, by omega⟩
    rw [grp_head]
    obtain ⟨g1, g2⟩ := takeWhile_at (p := sameId x) t m (by simpa using h2) (fun q hq => by simpa using h3 (q + 1) (by omega) (by omega)) (by
      rcases h4 with h4 | h4
      · left; simpa using h4
      · right; simpa using h4)
    rw [g1, g2]
    simp
theorem sameId_ident (a b : Res) : sameId a b = decide (resIdent a b = 0) := by
  unfold sameId
  congr 1
  exact propext resIdent_zero.symm

/-- what is known while the groups are made: the ones that are done, what is left -/
structure LgI (c : List Res) (rest rs : List Res) (cs : List CftP) : Prop where
  ex : ∃ gs, gs ++ grp rest = grp c ∧ rs = gs.filterMap single ∧ cs.map (·.c) = gs.filterMap several
  le : rs.length + cs.length + rest.length ≤ c.length
theorem LgI.init (c : List Res) : LgI c c [] [] := ⟨⟨[], rfl, rfl, rfl⟩, by simp⟩
theorem LgI.one {c rest rs : List Res} {cs : List CftP} (h : LgI c rest rs cs) (h2 : 1 ≤ rest.length) (h4 : 1 = rest.length ∨ sameId rest[0]! rest[1]! = false) : LgI c (rest.drop 1) (rs ++ [rest[0]!]) cs := by
  obtain ⟨⟨gs, g1, g2, g3⟩, hle⟩ := h
  have hs := grp_step (Nat.le_refl 1) h2 (fun q hq hq' => by omega) h4
  have ht : rest.take 1 = [rest[0]!] := by
    match rest, h2 with
    | x :: t, _ => rfl
  rw [ht] at hs
  refine ⟨⟨gs ++ [[rest[0]!]], by rw [← g1, hs]; simp, by rw [List.filterMap_append, ← g2]; rfl, by rw [List.filterMap_append, ← g3]; simp [several]⟩, by simp; omega⟩
theorem LgI.more {c rest rs : List Res} {cs : List CftP} (h : LgI c rest rs cs) {n : Nat} (h1 : 2 ≤ n) (h2 : n ≤ rest.length) (h3 : ∀ q, 1 ≤ q → q < n → sameId rest[0]! rest[q]! = true) (h4 : n = rest.length ∨ sameId rest[0]! rest[n]! = false) (a : Option Addr) (cap : Nat) :
    LgI c (rest.drop n) rs (cs ++ [⟨⟨(rest[0]!).vantage, (rest[0]!).run, (rest[0]!).number, rest.take n⟩, a, cap⟩]) := by
  obtain ⟨⟨gs, g1, g2, g3⟩, hle⟩ := h
  have hs := grp_step (by omega) h2 h3 h4
  refine ⟨⟨gs ++ [rest.take n], by rw [← g1, hs]; simp, ?_, ?_⟩, by simp; omega⟩
  · rw [List.filterMap_append, ← g2]
    match rest, n, h1, h2 with
    | x :: y :: t, n + 2, _, _ => simp [single]
    | [x], n + 2, _, h2 => simp at h2
  · rw [List.filterMap_append, ← g3]
    match rest, n, h1, h2 with
    | x :: y :: t, n + 2, _, _ => simp [several]
    | [x], n + 2, _, h2 => simp at h2
theorem LgI.fin {c rs : List Res} {cs : List CftP} (h : LgI c [] rs cs) : (⟨rs, cs.map (·.c)⟩ : Led) = ledOf c := by
  obtain ⟨⟨gs, g1, g2, g3⟩, _⟩ := h
  simp only [grp, List.append_nil] at g1
  unfold ledOf ledG
  rw [← g1, g2, g3]

def lgEnv (blk2 blk3 : Nat) (la : Option Addr) (lc : Nat) (rest : List Res) : List (Nat × SV) := [(0, .sl la rest.length lc 17 (resRd rest.toArray)), (3, .op 2 blk3 0), (2, .op 0 blk2 0)]
def lgOwn (blk2 blk3 : Nat) (ya : Option Addr) (yc : Nat) (rs : List Res) (za : Option Addr) (zc : Nat) (cs : List CftP) : List Own :=
  [.box blk2 30 [.sl none 0 0 0 fun _ _ => .v undef, .sl none 0 0 0 fun _ _ => .v undef], .gone, .box blk3 30 [.os 3 ya rs.length yc, .os 4 za cs.length zc],
    .row ya 39 rs.length yc 17 (resRd rs.toArray), .row za 59 cs.length zc 4 (cftRd cs)]
theorem compact_len : ∀ l : List Res, (compact l).length ≤ l.length
  | [] => Nat.le_refl _
  | [x] => Nat.le_refl _
  | x :: y :: l => by
    have ih := compact_len (y :: l)
    unfold compact
    split
    · simp only [List.length_cons] at ih ⊢; omega
    · simp only [List.length_cons] at ih ⊢; omega
theorem canon_sorted {xs : List Res} {N : Nat} {d' : Array Res} (hN : xs.length = N) (hd : d'.size = N) (hp : PermIn 0 N xs.toArray d') (hs : SortedIn resLt 0 N d') : Canon (compact d'.toList) xs ∧ (compact d'.toList).length ≤ xs.length := by
  subst hN
  refine ⟨canon_compact ?_ fun r => ?_, ?_⟩
  · rw [List.pairwise_iff_getElem]
    intro i j hi hj hij
    have hi' : i < d'.size := by simpa using hi
    have hj' : j < d'.size := by simpa using hj
    have := hs i j (Nat.zero_le _) hij (by omega)
    simpa [getElem!_def, hi', hj'] using this
  · have h := hp.2.2
    have e1 : (d'.extract 0 xs.length) = d' := by rw [← hd]; simp
    have e2 : (xs.toArray.extract 0 xs.length) = xs.toArray := by simp
    rw [e1, e2] at h
    simpa using h.mem_iff
  · have := compact_len d'.toList
    simp only [Array.length_toList] at this
    omega

theorem res_0 (d : Array Res) (i : Nat) : resRd d i 0 = .i .i64 (d[i]!).vantage := rfl
theorem res_1 (d : Array Res) (i : Nat) : resRd d i 1 = .i .i64 (d[i]!).run := rfl
theorem res_2 (d : Array Res) (i : Nat) : resRd d i 2 = .i .i64 (d[i]!).number := rfl
theorem cloneTC (F : Frm) (a : Option Addr) (cap : Nat) (xs : List Res) (n : Nat) (hn : n ≤ xs.length) (hl : xs.length ≤ 1000000000) : Contract F Try.prog 59 [.sl a n cap 17 (fun i j => resRd xs.toArray i j)] (fun r => ∃ a cap, r = .sl a n cap 17 (resRd (xs.take n).toArray)) := by
  have hlen : (xs.take n).length = n := by rw [List.length_take]; omega
  have h := (cloneC F a cap (xs.take n) (by omega)).toC
  rw [hlen] at h
  refine (Contract.of_sim (args := [.sl a n cap 17 (fun i j => resRd xs.toArray i j)]) h ⟨sim_sl (res_take xs n), trivial⟩).mono ?_
  rintro r ⟨a', ty, len, cap', sz, rd, rfl, ⟨a2, cap2, e⟩⟩
  simp only [resRow, Own.row.injEq] at e
  obtain ⟨rfl, rfl, rfl, rfl, rfl, rfl⟩ := e
  exact ⟨_, _, rfl⟩

set_option maxRecDepth 100000 in
theorem ledgerC0 (F : Frm) (a : Option Addr) (cap : Nat) (xs : List Res) (hl : xs.length ≤ 1000000000) :
    Contract F Try.prog 47 [.sl a xs.length cap 17 (resRd xs.toArray)] (fun r => ∃ (p : LedP) (c : List Res) (f : Nat → SV), Canon c xs ∧ p.led = ledOf c ∧ p.cs.length ≤ c.length ∧ c.length ≤ xs.length ∧ r = .agg 2 f ∧ f 0 = SV.sl p.a0 p.rs.length p.c0 17 (resRd p.rs.toArray) ∧ f 1 = SV.sl p.a1 p.cs.length p.c1 4 (cftRd p.cs)) := by
  refine contract_of Try.func47 rfl (by kernel_rfl) ?_
  simp only [Try.ntmps47, argEnv]
  (repeat refine Sat.seq ?_)
  (refine Sat.region_k fun k hk => ?_; simp -implicitDefEqProofs only [evr, id, reduceCtorEq, reduceIte, Nat.reduceMul, Nat.reduceAdd, Nat.reduceLT, Nat.reduceLeDiff, Nat.reduceEqDiff, Int.reduceLT, Int.reduceBEq, Int.reduceBNe, Nat.reduceBEq, res_one, List.append_nil, Int.toNat_zero, Nat.sub_self, cft_one, cft_0, cft_1, cft_2, cft_3, resRow, lgEnv, lgOwn])
  intro blk2
  (refine hk _ ?_; clear hk k; try show Sat _ _ _ _ _)
  (repeat refine Sat.seq ?_)
  (refine Sat.region_k fun k hk => ?_; simp -implicitDefEqProofs only [evr, id, reduceCtorEq, reduceIte, Nat.reduceMul, Nat.reduceAdd, Nat.reduceLT, Nat.reduceLeDiff, Nat.reduceEqDiff, Int.reduceLT, Int.reduceBEq, Int.reduceBNe, Nat.reduceBEq, res_one, List.append_nil, Int.toNat_zero, Nat.sub_self, cft_one, cft_0, cft_1, cft_2, cft_3, resRow, lgEnv, lgOwn])
  refine wcall_new (cloneC F a cap xs hl) rfl rfl ?_
  rintro ra ty len rc sz rrd ⟨ra', rc', e⟩
  simp only [resRow, Own.row.injEq] at e
  obtain ⟨rfl, rfl, rfl, rfl, rfl, rfl⟩ := e
  simp -implicitDefEqProofs only [evr, id, reduceCtorEq, reduceIte, Nat.reduceMul, Nat.reduceAdd, Nat.reduceLT, Nat.reduceLeDiff, Nat.reduceEqDiff, Int.reduceLT, Int.reduceBEq, Int.reduceBNe, Nat.reduceBEq, res_one, List.append_nil, Int.toNat_zero, Nat.sub_self, cft_one, cft_0, cft_1, cft_2, cft_3, resRow, lgEnv, lgOwn]
  (refine hk _ ?_; clear hk k; try show Sat _ _ _ _ _)
  (repeat refine Sat.seq ?_)
  (refine Sat.region_k fun k hk => ?_; simp -implicitDefEqProofs only [evr, id, reduceCtorEq, reduceIte, Nat.reduceMul, Nat.reduceAdd, Nat.reduceLT, Nat.reduceLeDiff, Nat.reduceEqDiff, Int.reduceLT, Int.reduceBEq, Int.reduceBNe, Nat.reduceBEq, res_one, List.append_nil, Int.toNat_zero, Nat.sub_self, cft_one, cft_0, cft_1, cft_2, cft_3, resRow, lgEnv, lgOwn])
  refine wcall_mut 1 (resSortC F resLt_swo compareCmp ra rc xs.length (by omega) xs.toArray (by simp)) rfl rfl ?_
  rintro r o1 ⟨rfl, d', hd', ⟨hperm, hsort⟩, rfl⟩
  simp -implicitDefEqProofs only [evr, id, reduceCtorEq, reduceIte, Nat.reduceMul, Nat.reduceAdd, Nat.reduceLT, Nat.reduceLeDiff, Nat.reduceEqDiff, Int.reduceLT, Int.reduceBEq, Int.reduceBNe, Nat.reduceBEq, res_one, List.append_nil, Int.toNat_zero, Nat.sub_self, cft_one, cft_0, cft_1, cft_2, cft_3, resRow, lgEnv, lgOwn]
  (refine hk _ ?_; clear hk k; try show Sat _ _ _ _ _)
  (repeat refine Sat.seq ?_)
  (refine Sat.region_k fun k hk => ?_; simp -implicitDefEqProofs only [evr, id, reduceCtorEq, reduceIte, Nat.reduceMul, Nat.reduceAdd, Nat.reduceLT, Nat.reduceLeDiff, Nat.reduceEqDiff, Int.reduceLT, Int.reduceBEq, Int.reduceBNe, Nat.reduceBEq, res_one, List.append_nil, Int.toNat_zero, Nat.sub_self, cft_one, cft_0, cft_1, cft_2, cft_3, resRow, lgEnv, lgOwn])
  refine wcall_mut 1 (compactC F ra rc xs.length (by omega) d' hd') rfl rfl ?_
  rintro r o1 ⟨rfl, rfl⟩
  simp -implicitDefEqProofs only [evr, id, reduceCtorEq, reduceIte, Nat.reduceMul, Nat.reduceAdd, Nat.reduceLT, Nat.reduceLeDiff, Nat.reduceEqDiff, Int.reduceLT, Int.reduceBEq, Int.reduceBNe, Nat.reduceBEq, res_one, List.append_nil, Int.toNat_zero, Nat.sub_self, cft_one, cft_0, cft_1, cft_2, cft_3, resRow, lgEnv, lgOwn]
  (refine hk _ ?_; clear hk k; try show Sat _ _ _ _ _)
  (repeat refine Sat.seq ?_)
  (refine Sat.region_k fun k hk => ?_; simp -implicitDefEqProofs only [evr, id, reduceCtorEq, reduceIte, Nat.reduceMul, Nat.reduceAdd, Nat.reduceLT, Nat.reduceLeDiff, Nat.reduceEqDiff, Int.reduceLT, Int.reduceBEq, Int.reduceBNe, Nat.reduceBEq, res_one, List.append_nil, Int.toNat_zero, Nat.sub_self, cft_one, cft_0, cft_1, cft_2, cft_3, resRow, lgEnv, lgOwn])
  intro blk3
  (refine hk _ ?_; clear hk k; try show Sat _ _ _ _ _)
  obtain ⟨hcan, hcl⟩ := canon_sorted rfl hd' hperm hsort
  generalize compact d'.toList = c at hcan hcl ⊢
  refine Sat.settle2 0 rfl rfl ?_
  simp -implicitDefEqProofs only [evr, id, reduceCtorEq, reduceIte, Nat.reduceMul, Nat.reduceAdd, Nat.reduceLT, Nat.reduceLeDiff, Nat.reduceEqDiff, Int.reduceLT, Int.reduceBEq, Int.reduceBNe, Nat.reduceBEq, res_one, List.append_nil, Int.toNat_zero, Nat.sub_self, cft_one, cft_0, cft_1, cft_2, cft_3, resRow, lgEnv, lgOwn]
  refine Sat.adoptBox 2 0 39 17 (resRd #[]) rfl rfl ?_
  simp -implicitDefEqProofs only [evr, id, reduceCtorEq, reduceIte, Nat.reduceMul, Nat.reduceAdd, Nat.reduceLT, Nat.reduceLeDiff, Nat.reduceEqDiff, Int.reduceLT, Int.reduceBEq, Int.reduceBNe, Nat.reduceBEq, res_one, List.append_nil, Int.toNat_zero, Nat.sub_self, cft_one, cft_0, cft_1, cft_2, cft_3, resRow, lgEnv, lgOwn]
  refine Sat.adoptBox 2 1 59 4 (cftRd []) rfl rfl ?_
  simp -implicitDefEqProofs only [evr, id, reduceCtorEq, reduceIte, Nat.reduceMul, Nat.reduceAdd, Nat.reduceLT, Nat.reduceLeDiff, Nat.reduceEqDiff, Int.reduceLT, Int.reduceBEq, Int.reduceBNe, Nat.reduceBEq, res_one, List.append_nil, Int.toNat_zero, Nat.sub_self, cft_one, cft_0, cft_1, cft_2, cft_3, resRow, lgEnv, lgOwn]
  (repeat refine Sat.seq ?_)
  refine Sat.block ?_
  refine Sat.loop (ι := (Option Addr × Nat × List Res) × (Option Addr × Nat × List Res) × Option Addr × Nat × List CftP) (fun x => ⟨63, lgEnv blk2 blk3 x.1.1 x.1.2.1 x.1.2.2, lgOwn blk2 blk3 x.2.1.1 x.2.1.2.1 x.2.1.2.2 x.2.2.1 x.2.2.2.1 x.2.2.2.2⟩)
    (fun x => LgI c x.1.2.2 x.2.1.2.2 x.2.2.2.2) (fun x => x.1.2.2.length) ((ra, rc, c), (none, 0, []), none, 0, []) (LgI.init c) (by simp -implicitDefEqProofs only [evr, id, reduceCtorEq, reduceIte, Nat.reduceMul, Nat.reduceAdd, Nat.reduceLT, Nat.reduceLeDiff, Nat.reduceEqDiff, Int.reduceLT, Int.reduceBEq, Int.reduceBNe, Nat.reduceBEq, res_one, List.append_nil, Int.toNat_zero, Nat.sub_self, cft_one, cft_0, cft_1, cft_2, cft_3, resRow, lgEnv, lgOwn, evl]) ?_
  rintro ⟨⟨la, lc, rest⟩, ⟨ya, yc, rs⟩, za, zc, cs⟩ hI
  simp only at hI ⊢
  have hle := hI.le
  (repeat refine Sat.seq ?_)
  (refine Sat.region_k fun k hk => ?_; simp -implicitDefEqProofs only [evr, id, reduceCtorEq, reduceIte, Nat.reduceMul, Nat.reduceAdd, Nat.reduceLT, Nat.reduceLeDiff, Nat.reduceEqDiff, Int.reduceLT, Int.reduceBEq, Int.reduceBNe, Nat.reduceBEq, res_one, List.append_nil, Int.toNat_zero, Nat.sub_self, cft_one, cft_0, cft_1, cft_2, cft_3, resRow, lgEnv, lgOwn]; refine hk _ ?_; clear hk k; try show Sat _ _ _ _ _)
  (repeat refine Sat.seq ?_)
  refine Sat.cond_b rfl (fun h => ?_) (fun h => ?_)
  · have h1 : 0 < rest.length := by simp only [decide_eq_true_eq] at h; omega
    refine Sat.skip ?_
    simp only [thenK]
    (repeat refine Sat.seq ?_)
    refine Sat.block ?_
    (repeat refine Sat.seq ?_)
    (refine Sat.region_k fun k hk => ?_; simp -implicitDefEqProofs only [evr, id, reduceCtorEq, reduceIte, Nat.reduceMul, Nat.reduceAdd, Nat.reduceLT, Nat.reduceLeDiff, Nat.reduceEqDiff, Int.reduceLT, Int.reduceBEq, Int.reduceBNe, Nat.reduceBEq, res_one, List.append_nil, Int.toNat_zero, Nat.sub_self, cft_one, cft_0, cft_1, cft_2, cft_3, resRow, lgEnv, lgOwn]; refine hk _ ?_; clear hk k; try show Sat _ _ _ _ _)
    (repeat refine Sat.seq ?_)
    refine Sat.block ?_
    refine Sat.loop (ι := Nat) (fun n => ⟨63, (4, .i .i64 n) :: lgEnv blk2 blk3 la lc rest, lgOwn blk2 blk3 ya yc rs za zc cs⟩)
      (fun n => 1 ≤ n ∧ n ≤ rest.length ∧ ∀ q, 1 ≤ q → q < n → sameId rest[0]! rest[q]! = true) (fun n => rest.length - n) 1 ⟨Nat.le_refl _, h1, fun q h2 h3 => by omega⟩ (by simp -implicitDefEqProofs only [evr, id, reduceCtorEq, reduceIte, Nat.reduceMul, Nat.reduceAdd, Nat.reduceLT, Nat.reduceLeDiff, Nat.reduceEqDiff, Int.reduceLT, Int.reduceBEq, Int.reduceBNe, Nat.reduceBEq, res_one, List.append_nil, Int.toNat_zero, Nat.sub_self, cft_one, cft_0, cft_1, cft_2, cft_3, resRow, lgEnv, lgOwn, evl]; rfl) ?_
    rintro n ⟨hn1, hn2, hn3⟩
    have et : ∀ q, rest.toArray[q]! = rest[q]! := fun q => by rw [List.getElem!_toArray]
    have e3 : IntKind.i64.wrap ((n : Int) + 1) = ((n + 1 : Nat) : Int) := by rw [w64 (by omega)]; omega
    (repeat refine Sat.seq ?_)
    refine Sat.region_qat (by kernel_rfl) (by kernel_rfl) ⟨63, (29, .b (decide (n < rest.length) && sameId rest[0]! rest[n]!)) :: (4, .i .i64 n) :: lgEnv blk2 blk3 la lc rest, lgOwn blk2 blk3 ya yc rs za zc cs⟩ (fun k hk => ?_) ?_
    · simp -implicitDefEqProofs only [evr, id, reduceCtorEq, reduceIte, Nat.reduceMul, Nat.reduceAdd, Nat.reduceLT, Nat.reduceLeDiff, Nat.reduceEqDiff, Int.reduceLT, Int.reduceBEq, Int.reduceBNe, Nat.reduceBEq, res_one, List.append_nil, Int.toNat_zero, Nat.sub_self, cft_one, cft_0, cft_1, cft_2, cft_3, resRow, lgEnv, lgOwn]
      refine ⟨fun h0 => ?_, fun h0 => ?_⟩
      · refine ⟨by omega, by omega, ?_⟩
        refine qcall (identityC Frm.nil rest.toArray[0]! rest.toArray[n]!) rfl (ok_plain rfl) ?_
        simp -implicitDefEqProofs only [evr, id, reduceCtorEq, reduceIte, Nat.reduceMul, Nat.reduceAdd, Nat.reduceLT, Nat.reduceLeDiff, Nat.reduceEqDiff, Int.reduceLT, Int.reduceBEq, Int.reduceBNe, Nat.reduceBEq, res_one, List.append_nil, Int.toNat_zero, Nat.sub_self, cft_one, cft_0, cft_1, cft_2, cft_3, resRow, lgEnv, lgOwn]
        refine hk _ ?_
        have e4 : (decide (n < rest.length) && sameId rest[0]! rest[n]!) = (resIdent rest[0]! rest[n]! == 0) := by
          rw [sameId_ident]
          simp only [show n < rest.length by omega, decide_true, Bool.true_and]
          rfl
        simp only [e4, et]
        simp -implicitDefEqProofs only [evr, id, reduceCtorEq, reduceIte, Nat.reduceMul, Nat.reduceAdd, Nat.reduceLT, Nat.reduceLeDiff, Nat.reduceEqDiff, Int.reduceLT, Int.reduceBEq, Int.reduceBNe, Nat.reduceBEq, res_one, List.append_nil, Int.toNat_zero, Nat.sub_self, cft_one, cft_0, cft_1, cft_2, cft_3, resRow, lgEnv, lgOwn, evl]
      · refine hk _ ?_
        have e4 : (decide (n < rest.length) && sameId rest[0]! rest[n]!) = false := by
          simp only [show ¬ n < rest.length by omega, decide_false, Bool.false_and]
        simp only [e4]
        simp -implicitDefEqProofs only [evr, id, reduceCtorEq, reduceIte, Nat.reduceMul, Nat.reduceAdd, Nat.reduceLT, Nat.reduceLeDiff, Nat.reduceEqDiff, Int.reduceLT, Int.reduceBEq, Int.reduceBNe, Nat.reduceBEq, res_one, List.append_nil, Int.toNat_zero, Nat.sub_self, cft_one, cft_0, cft_1, cft_2, cft_3, resRow, lgEnv, lgOwn, evl]
    simp only [thenK]
    refine Sat.cond_b rfl (fun h3 => ?_) (fun h3 => ?_)
    · simp only [Bool.and_eq_true, decide_eq_true_eq] at h3
      refine Sat.skip ?_
      simp only [thenK]
      (repeat refine Sat.seq ?_)
      refine Sat.block ?_
      refine Sat.region_k fun k hk => ?_
      simp -implicitDefEqProofs only [evr, id, reduceCtorEq, reduceIte, Nat.reduceMul, Nat.reduceAdd, Nat.reduceLT, Nat.reduceLeDiff, Nat.reduceEqDiff, Int.reduceLT, Int.reduceBEq, Int.reduceBNe, Nat.reduceBEq, res_one, List.append_nil, Int.toNat_zero, Nat.sub_self, cft_one, cft_0, cft_1, cft_2, cft_3, resRow, lgEnv, lgOwn, e3]
      refine hk _ ?_
      simp only [thenK, blockK]
      refine ⟨n + 1, ⟨by omega, by omega, fun q h4 h5 => ?_⟩, by omega, ?_⟩
      · by_cases e : q = n
        · subst e; exact h3.2
        · exact hn3 q h4 (by omega)
      · simp -implicitDefEqProofs only [evr, id, reduceCtorEq, reduceIte, Nat.reduceMul, Nat.reduceAdd, Nat.reduceLT, Nat.reduceLeDiff, Nat.reduceEqDiff, Int.reduceLT, Int.reduceBEq, Int.reduceBNe, Nat.reduceBEq, res_one, List.append_nil, Int.toNat_zero, Nat.sub_self, cft_one, cft_0, cft_1, cft_2, cft_3, resRow, lgEnv, lgOwn, evl]
    · have hn4 : n = rest.length ∨ sameId rest[0]! rest[n]! = false := by
        by_cases hlt : n < rest.length
        · right
          simpa [hlt] using h3
        · left; omega
      refine Sat.exit ?_
      simp only [thenK, blockK, reduceIte]
      (repeat refine Sat.seq ?_)
      (refine Sat.region_k fun k hk => ?_; simp -implicitDefEqProofs only [evr, id, reduceCtorEq, reduceIte, Nat.reduceMul, Nat.reduceAdd, Nat.reduceLT, Nat.reduceLeDiff, Nat.reduceEqDiff, Int.reduceLT, Int.reduceBEq, Int.reduceBNe, Nat.reduceBEq, res_one, List.append_nil, Int.toNat_zero, Nat.sub_self, cft_one, cft_0, cft_1, cft_2, cft_3, resRow, lgEnv, lgOwn])
      refine ⟨by omega, ?_⟩
      intro blk4
      (refine hk _ ?_; clear hk k; try show Sat _ _ _ _ _)
      (repeat refine Sat.seq ?_)
      (refine Sat.region_k fun k hk => ?_; simp -implicitDefEqProofs only [evr, id, reduceCtorEq, reduceIte, Nat.reduceMul, Nat.reduceAdd, Nat.reduceLT, Nat.reduceLeDiff, Nat.reduceEqDiff, Int.reduceLT, Int.reduceBEq, Int.reduceBNe, Nat.reduceBEq, res_one, List.append_nil, Int.toNat_zero, Nat.sub_self, cft_one, cft_0, cft_1, cft_2, cft_3, resRow, lgEnv, lgOwn]; refine hk _ ?_; clear hk k; try show Sat _ _ _ _ _)
      refine Sat.cond_b rfl (fun h5 => ?_) (fun h5 => ?_)
      · have h6 : n = 1 := by simp only [beq_iff_eq] at h5; omega
        subst h6
        (refine Sat.region_k fun k hk => ?_; simp -implicitDefEqProofs only [evr, id, reduceCtorEq, reduceIte, Nat.reduceMul, Nat.reduceAdd, Nat.reduceLT, Nat.reduceLeDiff, Nat.reduceEqDiff, Int.reduceLT, Int.reduceBEq, Int.reduceBNe, Nat.reduceBEq, res_one, List.append_nil, Int.toNat_zero, Nat.sub_self, cft_one, cft_0, cft_1, cft_2, cft_3, resRow, lgEnv, lgOwn])
        intro blk6
        refine ⟨⟨by unfold maxLen; omega, by omega⟩, fun a2 cap2 => ?_⟩
        (refine hk _ ?_; clear hk k; try show Sat _ _ _ _ _)
        (repeat refine Sat.seq ?_)
        (refine Sat.region_k fun k hk => ?_; simp -implicitDefEqProofs only [evr, id, reduceCtorEq, reduceIte, Nat.reduceMul, Nat.reduceAdd, Nat.reduceLT, Nat.reduceLeDiff, Nat.reduceEqDiff, Int.reduceLT, Int.reduceBEq, Int.reduceBNe, Nat.reduceBEq, res_one, List.append_nil, Int.toNat_zero, Nat.sub_self, cft_one, cft_0, cft_1, cft_2, cft_3, resRow, lgEnv, lgOwn])
        refine ⟨by omega, ?_⟩
        refine hk _ ?_
        simp only [thenK, blockK, res_drop]
        have hd1 : (rest.drop 1).length = rest.length - 1 := by simp
        refine ⟨((if lc = 1 then la else la.map (·.add 17), lc - 1, rest.drop 1), (a2, cap2, rs ++ [rest[0]!]), za, zc, cs), hI.one h1 hn4, by show (rest.drop 1).length < rest.length; omega, ?_⟩
        have ea := res_app1 (xs := rs) (d := rest.toArray) (q := 0) (l17 := (List.range 17).map (resRd rest.toArray 0)) rfl
        rw [et] at ea
        simp only [hd1, List.length_append]
        simp -implicitDefEqProofs only [evr, id, reduceCtorEq, reduceIte, Nat.reduceMul, Nat.reduceAdd, Nat.reduceLT, Nat.reduceLeDiff, Nat.reduceEqDiff, Int.reduceLT, Int.reduceBEq, Int.reduceBNe, Nat.reduceBEq, res_one, List.append_nil, Int.toNat_zero, Nat.sub_self, cft_one, cft_0, cft_1, cft_2, cft_3, resRow, lgEnv, lgOwn, evl]
        exact ⟨by rw [hd1], by simp, by simp, ea⟩
      · have h6 : 2 ≤ n := by
          have : ¬ (n : Int) = 1 := by simpa using h5
          omega
        (refine Sat.region_rows [⟨0, 44, 8, 0⟩, ⟨1, 45, 8796093022208, 1⟩, ⟨0, 46, 32, 0⟩, ⟨4, 47, 35184372088832, 1⟩, ⟨0, 48, 32, 0⟩, ⟨16, 49, 140737488355328, 1⟩, ⟨0, 50, 32, 0⟩, ⟨64, 51, 562949953421312, 1⟩, ⟨0, 52, 1, 0⟩, ⟨0, 53, 16, 0⟩, ⟨768, 54, 6755399441055744, 2⟩, ⟨1024, 55, 9007199254740992, 2⟩, ⟨2216, 56, 19492142137212928, 2⟩, ⟨4096, 57, 36028797018963968, 2⟩, ⟨10242, 58, 72075186223972352, 2⟩, ⟨32767, 59, 8, 0⟩, ⟨65535, 0, 432345564227567616, 2⟩] [0, 2, 4, 6, 8, 9, 1, 3, 5, 7] [(10, false), (11, false), (12, false), (13, false), (14, false), (15, false), (16, false)] [10, 11, 12, 13] (by kernel_rfl) (by kernel_rfl) (fun _ _ h => h) fun k hk => ?_; simp only [List.map_cons, List.map_nil, List.getD_cons_zero, List.getD_cons_succ, btseq_cons, btseq_free, btseq_nil]; simp -implicitDefEqProofs only [evr, id, reduceCtorEq, reduceIte, Nat.reduceMul, Nat.reduceAdd, Nat.reduceLT, Nat.reduceLeDiff, Nat.reduceEqDiff, Int.reduceLT, Int.reduceBEq, Int.reduceBNe, Nat.reduceBEq, res_one, List.append_nil, Int.toNat_zero, Nat.sub_self, cft_one, cft_0, cft_1, cft_2, cft_3, resRow, lgEnv, lgOwn])
        simp only [Nat.sub_zero]
        refine ⟨⟨by omega, by omega⟩, ?_⟩
        refine wcall_slice (cloneTC F _ _ rest n hn2 (by omega)) rfl rfl ?_
        rintro r ⟨ka, kc, rfl⟩
        simp -implicitDefEqProofs only [evr, id, reduceCtorEq, reduceIte, Nat.reduceMul, Nat.reduceAdd, Nat.reduceLT, Nat.reduceLeDiff, Nat.reduceEqDiff, Int.reduceLT, Int.reduceBEq, Int.reduceBNe, Nat.reduceBEq, res_one, List.append_nil, Int.toNat_zero, Nat.sub_self, cft_one, cft_0, cft_1, cft_2, cft_3, resRow, lgEnv, lgOwn, res_0, res_1, res_2]
        intro blk6
        refine ⟨⟨by unfold maxLen; omega, by omega⟩, fun a2 cap2 => ?_⟩
        (refine hk _ ?_; clear hk k; try show Sat _ _ _ _ _)
        (repeat refine Sat.seq ?_)
        (refine Sat.region_k fun k hk => ?_; simp -implicitDefEqProofs only [evr, id, reduceCtorEq, reduceIte, Nat.reduceMul, Nat.reduceAdd, Nat.reduceLT, Nat.reduceLeDiff, Nat.reduceEqDiff, Int.reduceLT, Int.reduceBEq, Int.reduceBNe, Nat.reduceBEq, res_one, List.append_nil, Int.toNat_zero, Nat.sub_self, cft_one, cft_0, cft_1, cft_2, cft_3, resRow, lgEnv, lgOwn])
        refine ⟨by omega, ?_⟩
        refine hk _ ?_
        simp only [thenK, blockK, res_drop]
        have hd1 : (rest.drop n).length = rest.length - n := by simp
        refine ⟨((if lc = n then la else la.map (·.add (n * 17)), lc - n, rest.drop n), (ya, yc, rs), a2, cap2, cs ++ [⟨⟨(rest[0]!).vantage, (rest[0]!).run, (rest[0]!).number, rest.take n⟩, ka, kc⟩]), hI.more h6 hn2 hn3 hn4 ka kc, by show (rest.drop n).length < rest.length; omega, ?_⟩
        have ea := cft_app1 cs ⟨⟨(rest[0]!).vantage, (rest[0]!).run, (rest[0]!).number, rest.take n⟩, ka, kc⟩
        have hlen : (rest.take n).length = n := by rw [List.length_take]; omega
        simp only [cftCs, hlen] at ea
        simp only [hd1, List.length_append, et]
        simp -implicitDefEqProofs only [evr, id, reduceCtorEq, reduceIte, Nat.reduceMul, Nat.reduceAdd, Nat.reduceLT, Nat.reduceLeDiff, Nat.reduceEqDiff, Int.reduceLT, Int.reduceBEq, Int.reduceBNe, Nat.reduceBEq, res_one, List.append_nil, Int.toNat_zero, Nat.sub_self, cft_one, cft_0, cft_1, cft_2, cft_3, resRow, lgEnv, lgOwn, evl]
        exact ⟨by rw [hd1], by simp, by simp, ea⟩
  · have h1 : rest = [] := by
      have : ¬ 0 < rest.length := by simp only [decide_eq_false_iff_not] at h; omega
      exact List.eq_nil_of_length_eq_zero (by omega)
    subst h1
    refine Sat.exit ?_
    simp only [thenK, blockK, reduceIte]
    (repeat refine Sat.seq ?_)
    (refine Sat.region_k fun k hk => ?_; simp -implicitDefEqProofs only [evr, id, reduceCtorEq, reduceIte, Nat.reduceMul, Nat.reduceAdd, Nat.reduceLT, Nat.reduceLeDiff, Nat.reduceEqDiff, Int.reduceLT, Int.reduceBEq, Int.reduceBNe, Nat.reduceBEq, res_one, List.append_nil, Int.toNat_zero, Nat.sub_self, cft_one, cft_0, cft_1, cft_2, cft_3, resRow, lgEnv, lgOwn]; refine hk _ ?_; clear hk k; try show Sat _ _ _ _ _)
    refine Sat.ret ?_
    simp only [Try.results47, evr, id, reduceCtorEq, reduceIte, Nat.reduceMul, Nat.reduceAdd, Nat.reduceLT, Nat.reduceLeDiff, Nat.reduceEqDiff, Int.reduceLT, Int.reduceBEq, Int.reduceBNe, Nat.reduceBEq, res_one, List.append_nil, Int.toNat_zero, Nat.sub_self, cft_one, cft_0, cft_1, cft_2, cft_3, resRow, lgEnv, lgOwn]
    refine ⟨⟨ya, yc, rs, za, zc, cs⟩, c, _, hcan, hI.fin, by show cs.length ≤ c.length; omega, hcl, rfl, ?_, ?_⟩
    · simp -implicitDefEqProofs only [evr, id, reduceCtorEq, reduceIte, Nat.reduceMul, Nat.reduceAdd, Nat.reduceLT, Nat.reduceLeDiff, Nat.reduceEqDiff, Int.reduceLT, Int.reduceBEq, Int.reduceBNe, Nat.reduceBEq, res_one, List.append_nil, Int.toNat_zero, Nat.sub_self, cft_one, cft_0, cft_1, cft_2, cft_3, resRow, lgEnv, lgOwn]
    · simp -implicitDefEqProofs only [evr, id, reduceCtorEq, reduceIte, Nat.reduceMul, Nat.reduceAdd, Nat.reduceLT, Nat.reduceLeDiff, Nat.reduceEqDiff, Int.reduceLT, Int.reduceBEq, Int.reduceBNe, Nat.reduceBEq, res_one, List.append_nil, Int.toNat_zero, Nat.sub_self, cft_one, cft_0, cft_1, cft_2, cft_3, resRow, lgEnv, lgOwn]

/-- merge.ledger: the ledger of the set of results -/
theorem ledgerC (F : Frm) (a : Option Addr) (cap : Nat) (xs : List Res) (hl : xs.length ≤ 1000000000) :
    Contract F Try.prog 47 [.sl a xs.length cap 17 (resRd xs.toArray)] (fun r => ∃ (p : LedP) (c : List Res), Canon c xs ∧ p.led = ledOf c ∧ p.cs.length ≤ c.length ∧ c.length ≤ xs.length ∧ r = ledS p) :=
  (ledgerC0 F a cap xs hl).same fun r ⟨p, c, f, h1, h2, h3, h4, h5, h6, h7⟩ => ⟨ledS p, by
    rw [h5]
    exact sim_agg2 (by rw [h6]; exact sim_refl _) (by rw [h7]; exact sim_refl _), p, c, h1, h2, h3, h4, rfl⟩
end Go.Proofs.Ythhofjkbmnklmaa
