/- Atoi at every string, in a frame that knows the program's variables. -/
import Derived.Test.YtepkbbmjbbnhnaaGreatDoorAwrE
import Derived.Test.YtepkbbmjbbnhnaaGreatDoorRqA
import Derived.Lib.AppendIntMem
set_option linter.unusedSimpArgs false
set_option linter.unusedVariables false
namespace Go.Proofs.YtepkbbmjbbnhnaaGreatDoor
open Go.RowKit Eng
/-! ### Strings as lists of bytes -/
/-! ### The program's variables that texts read -/
def IfcAt (g : Nat) (w : World) : Prop := ∃ te pe, w.cell? ⟨g, 0, none⟩ = some (.iface te pe)
theorem ifc_low {g N : Nat} (h : g < N) : LowFact N (IfcAt g) := fun w w' hw ⟨te, pe, hc⟩ => ⟨te, pe, (World.cell?_of_block (w := w) (a := ⟨g, 0, none⟩) (hw g h)).trans hc⟩
def TxU (w : World) : Prop := Lib.TabIs Tryz.prog w "internal/strconv.uint64pow10" .u64 Lib.pow10Tab ∧ (IfcAt 2 w ∧ IfcAt 3 w)
def txM : Nat := max (max 1 2) 3 + 1
theorem tu_low : LowFact txM TxU := LowFact.and (tab_low (g := 1) (by kernel_rfl) (by decide)) (LowFact.and (ifc_low (by decide)) (ifc_low (by decide)))
theorem ifc_lt {g : Nat} {w : World} (h : IfcAt g w) : g < w.heap.size := by
  obtain ⟨te, pe, h⟩ := h
  unfold World.cell? at h
  by_cases h0 : g < w.heap.size
  · exact h0
  · rw [Array.getElem?_eq_none (by simpa using h0)] at h
    simp at h
theorem tu_lt {w : World} (h : TxU w) : txM ≤ w.heap.size := by
  have h1 := ifc_lt h.2.1
  have h2 := ifc_lt h.2.2
  have hg : Tryz.prog.globalNamed "internal/strconv.uint64pow10" = some 1 := by kernel_rfl
  have h3 : 1 < w.heap.size := by
    have ht := h.1
    unfold Lib.TabIs World.var? at ht
    rw [hg] at ht
    simp only [Option.bind_some] at ht
    by_cases h0 : 1 < w.heap.size
    · exact h0
    · rw [Array.getElem?_eq_none (by omega)] at ht; cases ht
  unfold txM
  omega
abbrev FrB : Frm := Frm.tab txM TxU tu_low
theorem tup2_ok1 {R : Nat → Prop} {w : World} {s t : SV} (hs : s.ok R w) (ht : t.ok R w) : (tupL [s, t]).ok R w := by
  intro j hj
  have hj2 : j < 2 := hj
  rcases (show j = 0 ∨ j = 1 by omega) with rfl | rfl
  · exact hs
  · exact ht
theorem indexOneC (F : Frm) (s : ByteArray) (c : UInt8) : Contract F Tryz.prog 101 [.v (.string s), .v (.string ⟨#[c]⟩)] (fun r => r = .i .i64 (Lib.indexByte s.data.toList c)) := by
  refine ofCalls1 Tryz.func101 rfl (by kernel_rfl) fun R w hs hR => ?_
  refine (Tryz.stringslite_Index_one s c w).mono ?_
  rintro e w' ⟨rfl, rfl⟩
  exact ⟨_, rfl, rfl, trivial, below_refl _⟩
theorem Eng.Contract.toB {f : FuncId} {args : List SV} {post : SV → Prop} (h : Contract FrA Tryz.prog f args post) : Contract FrB Tryz.prog f args post :=
  h.lift (fun _ h => h) (fun w h => ⟨Nat.le_trans (by decide) h.1, h.2.1⟩) fun w w' h _ hev => FrB.stab w w' w.heap.size h (fun b hb => FrB.lt w b h hb) fun b hb => hev.block b hb (fun h => h)
def AtoiPost (l : List UInt8) (r : SV) : Prop := match Lib.atoiAll l with
  | .ok v => r = tupL [.i .i64 v, .v .nilIface]
  | _ => ∃ v te pe, r = tupL [.i .i64 v, .v (.iface te pe)]
theorem atoiAllC (l : List UInt8) (hl : l.length ≤ 281474976710656) : Contract FrB Tryz.prog 104 [sB l] (AtoiPost l) := by
  refine ofCallsT Tryz.func104 rfl (by kernel_rfl) fun R w hT hs hR => ?_
  unfold AtoiPost
  cases h : Lib.atoiAll l with
  | ok v =>
    refine (Tryz.strconv_Atoi_ok (mkB l) (by rw [mkB_size]; omega) v h w).mono ?_
    rintro e w' ⟨rfl, hw⟩
    refine ⟨_, rfl, rfl, tup2_ok1 trivial trivial, ?_⟩
    rcases hw with rfl | ⟨t, rfl⟩
    · exact below_refl _
    · exact Lib.bytesWorld_below _ _ _
  | «syntax» =>
    obtain ⟨te, pe, hc⟩ := hT.2.1
    refine (Tryz.strconv_Atoi_syntax (mkB l) (by rw [mkB_size]; exact hl) h _ w hc (.inr ⟨_, _, rfl⟩)).mono ?_
    rintro e w' ⟨N, rfl, _, _, hb⟩
    exact ⟨tupL [.i .i64 0, .v (.iface _ (.pointer (some ⟨N, 0, none⟩)))], rfl, ⟨_, _, _, rfl⟩, tup2_ok1 trivial trivial, hb⟩
  | range =>
    obtain ⟨te, pe, hc⟩ := hT.2.2
    refine (Tryz.strconv_Atoi_range (mkB l) (by rw [mkB_size]; exact hl) h _ w hc (.inr ⟨_, _, rfl⟩)).mono ?_
    rintro e w' ⟨N, rfl, _, _, hb⟩
    exact ⟨tupL [.i .i64 (Lib.atoiSat (mkB l).data.toList), .v (.iface _ (.pointer (some ⟨N, 0, none⟩)))], rfl, ⟨_, _, _, rfl⟩, tup2_ok1 trivial trivial, hb⟩
theorem atoi_dig {n : Nat} (hn : n < 1000) : Lib.atoiAll (Lib.decDigits n) = .ok (n : Int) := by
  have h := atoi_small ⟨n, hn⟩
  unfold atoiOk at h
  split at h
  · rename_i v hv
    rw [hv]
    congr 1
    simpa using h
  · cases h
theorem num_of_atoi {l : List UInt8} {m n : Nat} (hm : m < 1000) (h : numB l m = some n) : Lib.atoiAll l = .ok (n : Int) ∧ Lib.itoa (n : Int) = l := by
  obtain ⟨h1, h2⟩ := numB_some h
  subst h2
  refine ⟨atoi_dig (by omega), ?_⟩
  unfold Lib.itoa
  rw [if_neg (by omega)]
  rfl
def NumPost (l : List UInt8) (m : Nat) (r : SV) : Prop := ∃ v : Int, r = tupL [.i .i64 v, .b (numB l m).isSome] ∧ ∀ n, numB l m = some n → v = n
theorem atoi_range {l : List UInt8} {v : Int} (h : Lib.atoiAll l = .ok v) : -9223372036854775808 ≤ v ∧ v ≤ 9223372036854775807 := by
  unfold Lib.atoiAll at h
  split at h
  · cases h
  · simp only [] at h
    split at h
    · cases h
    · cases h
    · rename_i u hu
      have := Lib.parseMag_lt hu
      split at h
      · cases h
      · rename_i h1
        split at h
        · cases h
        · rename_i h2
          injection h with h
          subst h
          split <;> omega
set_option maxRecDepth 100000 in
theorem numberC2 (l : List UInt8) (m : Nat) (hm : m < 1000) (hl : l.length ≤ 281474976710656) : Contract FrB Tryz.prog 103 [sB l, .i .i64 m] (NumPost l m) := by
  refine contract_of Tryz.func103 rfl (by kernel_rfl) ?_
  simp only [Tryz.ntmps103, argEnv]
  (repeat refine Sat.seq ?_)
  (refine Sat.region_k fun k hk => ?_; simp -implicitDefEqProofs only [evr, id, reduceCtorEq, reduceIte, Nat.reduceMul, Nat.reduceAdd, Nat.reduceLT, Nat.reduceLeDiff, Nat.reduceEqDiff, Int.reduceLT, Int.reduceBEq, Int.reduceBNe, Nat.reduceBEq, Int.reduceNeg, evn]; refine hk _ ?_; clear hk k; try show Sat _ _ _ _ _)
  (repeat refine Sat.seq ?_)
  (refine Sat.region_k fun k hk => ?_; simp -implicitDefEqProofs only [evr, id, reduceCtorEq, reduceIte, Nat.reduceMul, Nat.reduceAdd, Nat.reduceLT, Nat.reduceLeDiff, Nat.reduceEqDiff, Int.reduceLT, Int.reduceBEq, Int.reduceBNe, Nat.reduceBEq, Int.reduceNeg, evn])
  refine wcall_slice (atoiAllC l hl) rfl (by simp -implicitDefEqProofs only [evr, id, reduceCtorEq, reduceIte, Nat.reduceMul, Nat.reduceAdd, Nat.reduceLT, Nat.reduceLeDiff, Nat.reduceEqDiff, Int.reduceLT, Int.reduceBEq, Int.reduceBNe, Nat.reduceBEq, Int.reduceNeg, evn]; try rfl) ?_
  intro r hr
  unfold AtoiPost at hr
  have hcase : (∃ v, Lib.atoiAll l = .ok v ∧ r = tupL [.i .i64 v, .v .nilIface]) ∨ (numB l m = none ∧ ∃ v te pe, r = tupL [.i .i64 v, .v (.iface te pe)]) := by
    have hno : (∀ v, Lib.atoiAll l ≠ .ok v) → numB l m = none := fun h => by
      cases hn : numB l m with
      | none => rfl
      | some n => exact absurd (num_of_atoi hm hn).1 (h _)
    cases ha : Lib.atoiAll l with
    | ok v => rw [ha] at hr; exact .inl ⟨v, rfl, hr⟩
    | «syntax» => rw [ha] at hr; exact .inr ⟨hno (fun v h => by rw [ha] at h; cases h), hr⟩
    | range => rw [ha] at hr; exact .inr ⟨hno (fun v h => by rw [ha] at h; cases h), hr⟩
  rcases hcase with ⟨v, ha, rfl⟩ | ⟨hno, v, te, pe, rfl⟩
  · have hv := atoi_range ha
    have hsome : ∀ n, numB l m = some n → v = n := fun n hn => by
      have := (num_of_atoi hm hn).1
      rw [ha] at this
      injection this
    simp -implicitDefEqProofs only [evr, id, reduceCtorEq, reduceIte, Nat.reduceMul, Nat.reduceAdd, Nat.reduceLT, Nat.reduceLeDiff, Nat.reduceEqDiff, Int.reduceLT, Int.reduceBEq, Int.reduceBNe, Nat.reduceBEq, Int.reduceNeg, evn]
    (refine hk _ ?_; clear hk k; try show Sat _ _ _ _ _)
    (repeat refine Sat.seq ?_)
    by_cases h0 : 0 ≤ v
    · have d0 : (0 ≤ v) = True := eq_true h0
      by_cases h1 : v ≤ (m : Int)
      · have d1 : (v ≤ (m : Int)) = True := eq_true h1
        refine Sat.region_k fun k hk => ?_
        simp -implicitDefEqProofs only [evr, id, reduceCtorEq, reduceIte, Nat.reduceMul, Nat.reduceAdd, Nat.reduceLT, Nat.reduceLeDiff, Nat.reduceEqDiff, Int.reduceLT, Int.reduceBEq, Int.reduceBNe, Nat.reduceBEq, Int.reduceNeg, d0, d1, true_implies, not_true_eq_false, false_implies, and_true, decide_true, evn]
        refine wcall_slice (itoaC v hv.1 hv.2).toB rfl (by simp -implicitDefEqProofs only [evr, id, reduceCtorEq, reduceIte, Nat.reduceMul, Nat.reduceAdd, Nat.reduceLT, Nat.reduceLeDiff, Nat.reduceEqDiff, Int.reduceLT, Int.reduceBEq, Int.reduceBNe, Nat.reduceBEq, Int.reduceNeg, evn]; try rfl) ?_
        rintro r rfl
        simp -implicitDefEqProofs only [evr, id, reduceCtorEq, reduceIte, Nat.reduceMul, Nat.reduceAdd, Nat.reduceLT, Nat.reduceLeDiff, Nat.reduceEqDiff, Int.reduceLT, Int.reduceBEq, Int.reduceBNe, Nat.reduceBEq, Int.reduceNeg, d0, d1, decide_true, mkB_toList, evn]
        (refine hk _ ?_; clear hk k; try show Sat _ _ _ _ _)
        refine Sat.ret ?_
        simp only [Tryz.results103, evr, id, reduceCtorEq, reduceIte, Nat.reduceMul, Nat.reduceAdd, Nat.reduceLT, Nat.reduceLeDiff, Nat.reduceEqDiff, Int.reduceLT, Int.reduceBEq, Int.reduceBNe, Nat.reduceBEq, List.append_nil, Int.toNat_zero, Nat.sub_self, Int.reduceNeg]
        refine ⟨v, ?_, hsome⟩
        have e : (Lib.itoa v == l) = (numB l m).isSome := by
          cases hn : numB l m with
          | some n =>
            have h2 := (num_of_atoi hm hn).2
            rw [← hsome n hn] at h2
            simp [h2]
          | none =>
            have h3 := numB_none hn v.toNat (by omega)
            have h4 : Lib.itoa v = Lib.decDigits v.toNat := by unfold Lib.itoa; rw [if_neg (by omega)]
            rw [h4]
            simpa using h3
        first | rw [e] | simp only [e]
      · have d1 : (v ≤ (m : Int)) = False := eq_false h1
        have hn : numB l m = none := by
          cases hn : numB l m with
          | none => rfl
          | some n => have := hsome n hn; have := (numB_some hn).1; omega
        refine Sat.region_k fun k hk => ?_
        simp -implicitDefEqProofs only [evr, id, reduceCtorEq, reduceIte, Nat.reduceMul, Nat.reduceAdd, Nat.reduceLT, Nat.reduceLeDiff, Nat.reduceEqDiff, Int.reduceLT, Int.reduceBEq, Int.reduceBNe, Nat.reduceBEq, Int.reduceNeg, d0, d1, true_implies, not_true_eq_false, not_false_eq_true, false_implies, and_true, true_and, decide_false, evn]
        (refine hk _ ?_; clear hk k; try show Sat _ _ _ _ _)
        refine Sat.ret ?_
        simp only [Tryz.results103, evr, id, reduceCtorEq, reduceIte, Nat.reduceMul, Nat.reduceAdd, Nat.reduceLT, Nat.reduceLeDiff, Nat.reduceEqDiff, Int.reduceLT, Int.reduceBEq, Int.reduceBNe, Nat.reduceBEq, List.append_nil, Int.toNat_zero, Nat.sub_self, Int.reduceNeg]
        exact ⟨v, by rw [hn]; rfl, hsome⟩
    · have d0 : (0 ≤ v) = False := eq_false h0
      have hn : numB l m = none := by
        cases hn : numB l m with
        | none => rfl
        | some n => have := hsome n hn; omega
      refine Sat.region_k fun k hk => ?_
      simp -implicitDefEqProofs only [evr, id, reduceCtorEq, reduceIte, Nat.reduceMul, Nat.reduceAdd, Nat.reduceLT, Nat.reduceLeDiff, Nat.reduceEqDiff, Int.reduceLT, Int.reduceBEq, Int.reduceBNe, Nat.reduceBEq, Int.reduceNeg, d0, true_implies, not_true_eq_false, not_false_eq_true, false_implies, and_true, true_and, decide_false, evn]
      (refine hk _ ?_; clear hk k; try show Sat _ _ _ _ _)
      refine Sat.ret ?_
      simp only [Tryz.results103, evr, id, reduceCtorEq, reduceIte, Nat.reduceMul, Nat.reduceAdd, Nat.reduceLT, Nat.reduceLeDiff, Nat.reduceEqDiff, Int.reduceLT, Int.reduceBEq, Int.reduceBNe, Nat.reduceBEq, List.append_nil, Int.toNat_zero, Nat.sub_self, Int.reduceNeg]
      exact ⟨v, by rw [hn]; rfl, hsome⟩
  · simp -implicitDefEqProofs only [evr, id, reduceCtorEq, reduceIte, Nat.reduceMul, Nat.reduceAdd, Nat.reduceLT, Nat.reduceLeDiff, Nat.reduceEqDiff, Int.reduceLT, Int.reduceBEq, Int.reduceBNe, Nat.reduceBEq, Int.reduceNeg, evn]
    (refine hk _ ?_; clear hk k; try show Sat _ _ _ _ _)
    (repeat refine Sat.seq ?_)
    refine Sat.region_k fun k hk => ?_
    simp -implicitDefEqProofs only [evr, id, reduceCtorEq, reduceIte, Nat.reduceMul, Nat.reduceAdd, Nat.reduceLT, Nat.reduceLeDiff, Nat.reduceEqDiff, Int.reduceLT, Int.reduceBEq, Int.reduceBNe, Nat.reduceBEq, Int.reduceNeg, evn]
    (refine hk _ ?_; clear hk k; try show Sat _ _ _ _ _)
    refine Sat.ret ?_
    simp only [Tryz.results103, evr, id, reduceCtorEq, reduceIte, Nat.reduceMul, Nat.reduceAdd, Nat.reduceLT, Nat.reduceLeDiff, Nat.reduceEqDiff, Int.reduceLT, Int.reduceBEq, Int.reduceBNe, Nat.reduceBEq, List.append_nil, Int.toNat_zero, Nat.sub_self, Int.reduceNeg]
    exact ⟨v, by rw [hno]; rfl, fun n hn => by rw [hno] at hn; cases hn⟩
end Go.Proofs.YtepkbbmjbbnhnaaGreatDoor
