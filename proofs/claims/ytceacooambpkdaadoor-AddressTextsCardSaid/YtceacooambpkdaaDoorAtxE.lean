/- Numbers in texts of addresses: strconv.Itoa and Atoi by the evaluator, cutting at a byte, address.number. -/
import Derived.Test.YtceacooambpkdaaDoorAtxM
import Derived.Test.YtceacooambpkdaaDoorGlbE
import Derived.Test.YtceacooambpkdaaDoorAtoE
import Derived.Test.YtceacooambpkdaaDoorFmtE
import Derived.Lib.AppendIntMem
set_option linter.unusedSimpArgs false
set_option linter.unusedVariables false
namespace Go.Proofs.YtceacooambpkdaaDoor
open Go.RowKit Eng

/-! ### Strings as lists of bytes -/
def mkB (l : List UInt8) : ByteArray := ⟨l.toArray⟩
abbrev sB (l : List UInt8) : SV := .v (.string (mkB l))
theorem mkB_size (l : List UInt8) : (mkB l).size = l.length := by simp [mkB, ByteArray.size]
theorem mkB_list (l : List UInt8) : (mkB l).data.toList = l := rfl
theorem mkB_toList (l : List UInt8) : (mkB l).toList = l := by rw [ByteArray.toList_eq]; rfl
theorem mkB_of (s : ByteArray) : s = mkB s.data.toList := WideShapes.bytes_inj rfl
theorem mkB_inj {a b : ByteArray} (h : a.data.toList = b.data.toList) : a = b := WideShapes.bytes_inj h
theorem mkB_append (l m : List UInt8) : mkB l ++ mkB m = mkB (l ++ m) := mkB_inj (by simp [mkB, ByteArray.data_append])
theorem mkB_extract (l : List UInt8) (i j : Nat) : (mkB l).extract i j = mkB ((l.drop i).take (j - i)) := mkB_inj (by
  rw [mkB_list, ByteArray.data_extract, Array.toList_extract, List.extract_eq_take_drop]; rfl)

/-! ### The program's variables that texts read -/
def IfcAt (g : Nat) (w : World) : Prop := ∃ te pe, w.cell? ⟨g, 0, none⟩ = some (.iface te pe)
theorem ifc_low {g N : Nat} (h : g < N) : LowFact N (IfcAt g) := fun w w' hw ⟨te, pe, hc⟩ => ⟨te, pe, (World.cell?_of_block (w := w) (a := ⟨g, 0, none⟩) (hw g h)).trans hc⟩
def TxT (w : World) : Prop := Lib.TabIs Tryd.prog w "internal/strconv.uint64pow10" .u64 Lib.pow10Tab ∧ (IfcAt 4 w ∧ IfcAt 5 w)
def txN : Nat := max (max 3 4) 5 + 1
theorem tx_low : LowFact txN TxT := LowFact.and (tab_low (g := 3) (by kernel_rfl) (by decide)) (LowFact.and (ifc_low (by decide)) (ifc_low (by decide)))
theorem ifc_lt {g : Nat} {w : World} (h : IfcAt g w) : g < w.heap.size := by
  obtain ⟨te, pe, h⟩ := h
  unfold World.cell? at h
  by_cases h0 : g < w.heap.size
  · exact h0
  · rw [Array.getElem?_eq_none (by simpa using h0)] at h
    simp at h
theorem tx_lt {w : World} (h : TxT w) : txN ≤ w.heap.size := by
  have h1 := ifc_lt h.2.1
  have h2 := ifc_lt h.2.2
  have hg : Tryd.prog.globalNamed "internal/strconv.uint64pow10" = some 3 := by kernel_rfl
  have h3 : 3 < w.heap.size := by
    have ht := h.1
    unfold Lib.TabIs World.var? at ht
    rw [hg] at ht
    simp only [Option.bind_some] at ht
    by_cases h0 : 3 < w.heap.size
    · exact h0
    · rw [Array.getElem?_eq_none (by omega)] at ht; cases ht
  unfold txN
  omega
abbrev FrA : Frm := Frm.tab txN TxT tx_low

/-- A contract out of the kit's, in a frame that knows the program's variables. -/
theorem ofCallsT {P : Program} {f : FuncId} {fn : Func} {c : Code} {args : List SV} {post : SV → Prop} {N : Nat} {T : World → Prop} {hT : LowFact N T} (hf : P.funcs[f]? = some fn) (hb : fn.body = some c) (hname : (fn.name == "runtime.NumGoroutine") = false)
    (h : ∀ (R : Nat → Prop) (w : World), T w → (∀ s ∈ args, s.ok R w) → (∀ b, R b → b < w.heap.size) → Calls P f (args.map SV.den).toArray w fun e w' => ∃ r, e = .returned r.den ∧ post r ∧ r.ok (fun b => R b ∨ (w.heap.size ≤ b ∧ b < w'.heap.size)) w' ∧ Below w.heap.size w w') :
    Contract (Frm.tab N T hT) P f args post := by
  refine ⟨fun vs w => ?_, fun R w hinv hargs hR => ?_⟩
  · have hn : ¬ fn.name = "runtime.NumGoroutine" := by simpa using hname
    simp [callFunc, hf, hn, hb]
  · refine (h R w hinv.2 hargs fun b hb => (hR b hb).1).mono ?_
    rintro e w' ⟨r, he, hp, hok, hbel⟩
    exact ⟨r, he, hp, hok, ⟨hbel.os, hbel.tape, hbel.output, hbel.size, fun b hb _ => hbel.block b hb⟩, (Frm.tab N T hT).stab w w' w.heap.size hinv (fun b hm => (Frm.tab N T hT).lt w b hinv hm) fun b hb => hbel.block b hb⟩
theorem itoaC (n : Int) (h0 : -9223372036854775808 ≤ n) (h1 : n ≤ 9223372036854775807) : Contract FrA Tryd.prog 44 [.i .i64 n] (fun r => r = sB (Lib.itoa n)) := by
  refine ofCallsT Tryd.func44 rfl (by kernel_rfl) fun R w hT hs hR => ?_
  refine (Tryd.strconv_Itoa n h0 h1 w hT.1).mono ?_
  rintro e w' ⟨rfl, k, os, rfl⟩
  refine ⟨_, rfl, rfl, trivial, ?_⟩
  exact Lib.below_grow _ _ (Nat.le_refl _) _ _
/-- what Atoi gives: the number and nil, or something and an error -/
def AtoiPost (l : List UInt8) (r : SV) : Prop := match Lib.atoiAll l with
  | .ok v => r = tupL [.i .i64 v, .v .nilIface]
  | _ => ∃ v te pe, r = tupL [.i .i64 v, .v (.iface te pe)]
theorem atoiAllC (l : List UInt8) (hl : l.length ≤ 281474976710656) : Contract FrA Tryd.prog 65 [sB l] (AtoiPost l) := by
  refine ofCallsT Tryd.func65 rfl (by kernel_rfl) fun R w hT hs hR => ?_
  unfold AtoiPost
  cases h : Lib.atoiAll l with
  | ok v =>
    refine (Tryd.strconv_Atoi_ok (mkB l) (by rw [mkB_size]; omega) v h w).mono ?_
    rintro e w' ⟨rfl, hw⟩
    refine ⟨_, rfl, rfl, tup2_ok1 trivial trivial, ?_⟩
    rcases hw with rfl | ⟨t, rfl⟩
    · exact below_refl _
    · exact Lib.bytesWorld_below _ _ _
  | «syntax» =>
    obtain ⟨te, pe, hc⟩ := hT.2.1
    refine (Tryd.strconv_Atoi_syntax (mkB l) (by rw [mkB_size]; exact hl) h _ w hc (.inr ⟨_, _, rfl⟩)).mono ?_
    rintro e w' ⟨N, rfl, _, _, hb⟩
    exact ⟨tupL [.i .i64 0, .v (.iface _ (.pointer (some ⟨N, 0, none⟩)))], rfl, ⟨_, _, _, rfl⟩, tup2_ok1 trivial trivial, hb⟩
  | range =>
    obtain ⟨te, pe, hc⟩ := hT.2.2
    refine (Tryd.strconv_Atoi_range (mkB l) (by rw [mkB_size]; exact hl) h _ w hc (.inr ⟨_, _, rfl⟩)).mono ?_
    rintro e w' ⟨N, rfl, _, _, hb⟩
    exact ⟨tupL [.i .i64 (Lib.atoiSat (mkB l).data.toList), .v (.iface _ (.pointer (some ⟨N, 0, none⟩)))], rfl, ⟨_, _, _, rfl⟩, tup2_ok1 trivial trivial, hb⟩
theorem atoi_dig {n : Nat} (hn : n < 1000) : Lib.atoiAll (Lib.decDigits n) = .ok (n : Int) := by
  have h := atoi_small ⟨n, hn⟩
  unfold atoiOk at h
  split at h
  · rename_i v hv
    rw [hv]
    congr 1
    simpa using h
  · cases h
theorem num_of_atoi {l : List UInt8} {m n : Nat} (hm : m < 1000) (h : numB l m = some n) : Lib.atoiAll l = .ok (n : Int) ∧ Lib.itoa (n : Int) = l := by
  obtain ⟨h1, h2⟩ := numB_some h
  subst h2
  refine ⟨atoi_dig (by omega), ?_⟩
  unfold Lib.itoa
  rw [if_neg (by omega)]
  rfl
def NumPost (l : List UInt8) (m : Nat) (r : SV) : Prop := ∃ v : Int, r = tupL [.i .i64 v, .b (numB l m).isSome] ∧ ∀ n, numB l m = some n → v = n
theorem atoi_range {l : List UInt8} {v : Int} (h : Lib.atoiAll l = .ok v) : -9223372036854775808 ≤ v ∧ v ≤ 9223372036854775807 := by
  unfold Lib.atoiAll at h
  split at h
  · cases h
  · simp only [] at h
    split at h
    · cases h
    · cases h
    · rename_i u hu
      have := Lib.parseMag_lt hu
      split at h
      · cases h
      · rename_i h1
        split at h
        · cases h
        · rename_i h2
          injection h with h
          subst h
          split <;> omega
set_option maxRecDepth 100000 in
theorem numberC2 (l : List UInt8) (m : Nat) (hm : m < 1000) (hl : l.length ≤ 281474976710656) : Contract FrA Tryd.prog 48 [sB l, .i .i64 m] (NumPost l m) := by
  refine contract_of Tryd.func48 rfl (by kernel_rfl) ?_
  simp only [Tryd.ntmps48, argEnv]
  (repeat refine Sat.seq ?_)
  (refine Sat.region_k fun k hk => ?_; simp -implicitDefEqProofs only [evr, id, reduceCtorEq, reduceIte, Nat.reduceMul, Nat.reduceAdd, Nat.reduceLT, Nat.reduceLeDiff, Nat.reduceEqDiff, Int.reduceLT, Int.reduceBEq, Int.reduceBNe, Nat.reduceBEq, List.append_nil, Int.toNat_zero, Nat.sub_self, Int.reduceNeg]; refine hk _ ?_; clear hk k; try show Sat _ _ _ _ _)
  (repeat refine Sat.seq ?_)
  (refine Sat.region_k fun k hk => ?_; simp -implicitDefEqProofs only [evr, id, reduceCtorEq, reduceIte, Nat.reduceMul, Nat.reduceAdd, Nat.reduceLT, Nat.reduceLeDiff, Nat.reduceEqDiff, Int.reduceLT, Int.reduceBEq, Int.reduceBNe, Nat.reduceBEq, List.append_nil, Int.toNat_zero, Nat.sub_self, Int.reduceNeg])
  refine wcall_slice (atoiAllC l hl) rfl (by simp -implicitDefEqProofs only [evr, id, reduceCtorEq, reduceIte, Nat.reduceMul, Nat.reduceAdd, Nat.reduceLT, Nat.reduceLeDiff, Nat.reduceEqDiff, Int.reduceLT, Int.reduceBEq, Int.reduceBNe, Nat.reduceBEq, List.append_nil, Int.toNat_zero, Nat.sub_self, Int.reduceNeg]; try rfl) ?_
  intro r hr
  unfold AtoiPost at hr
  have hcase : (∃ v, Lib.atoiAll l = .ok v ∧ r = tupL [.i .i64 v, .v .nilIface]) ∨ (numB l m = none ∧ ∃ v te pe, r = tupL [.i .i64 v, .v (.iface te pe)]) := by
    have hno : (∀ v, Lib.atoiAll l ≠ .ok v) → numB l m = none := fun h => by
      cases hn : numB l m with
      | none => rfl
      | some n => exact absurd (num_of_atoi hm hn).1 (h _)
    cases ha : Lib.atoiAll l with
    | ok v => rw [ha] at hr; exact .inl ⟨v, rfl, hr⟩
    | «syntax» => rw [ha] at hr; exact .inr ⟨hno (fun v h => by rw [ha] at h; cases h), hr⟩
    | range => rw [ha] at hr; exact .inr ⟨hno (fun v h => by rw [ha] at h; cases h), hr⟩
  rcases hcase with ⟨v, ha, rfl⟩ | ⟨hno, v, te, pe, rfl⟩
  · have hv := atoi_range ha
    have hsome : ∀ n, numB l m = some n → v = n := fun n hn => by
      have := (num_of_atoi hm hn).1
      rw [ha] at this
      injection this
    simp -implicitDefEqProofs only [evr, id, reduceCtorEq, reduceIte, Nat.reduceMul, Nat.reduceAdd, Nat.reduceLT, Nat.reduceLeDiff, Nat.reduceEqDiff, Int.reduceLT, Int.reduceBEq, Int.reduceBNe, Nat.reduceBEq, List.append_nil, Int.toNat_zero, Nat.sub_self, Int.reduceNeg]
    (refine hk _ ?_; clear hk k; try show Sat _ _ _ _ _)
    (repeat refine Sat.seq ?_)
    by_cases h0 : 0 ≤ v
    · have d0 : (0 ≤ v) = True := eq_true h0
      by_cases h1 : v ≤ (m : Int)
      · have d1 : (v ≤ (m : Int)) = True := eq_true h1
        refine Sat.region_k fun k hk => ?_
        simp -implicitDefEqProofs only [evr, id, reduceCtorEq, reduceIte, Nat.reduceMul, Nat.reduceAdd, Nat.reduceLT, Nat.reduceLeDiff, Nat.reduceEqDiff, Int.reduceLT, Int.reduceBEq, Int.reduceBNe, Nat.reduceBEq, List.append_nil, Int.toNat_zero, Nat.sub_self, Int.reduceNeg, d0, d1, true_implies, not_true_eq_false, false_implies, and_true, decide_true]
        refine wcall_slice (itoaC v hv.1 hv.2) rfl (by simp -implicitDefEqProofs only [evr, id, reduceCtorEq, reduceIte, Nat.reduceMul, Nat.reduceAdd, Nat.reduceLT, Nat.reduceLeDiff, Nat.reduceEqDiff, Int.reduceLT, Int.reduceBEq, Int.reduceBNe, Nat.reduceBEq, List.append_nil, Int.toNat_zero, Nat.sub_self, Int.reduceNeg]; try rfl) ?_
        rintro r rfl
        simp -implicitDefEqProofs only [evr, id, reduceCtorEq, reduceIte, Nat.reduceMul, Nat.reduceAdd, Nat.reduceLT, Nat.reduceLeDiff, Nat.reduceEqDiff, Int.reduceLT, Int.reduceBEq, Int.reduceBNe, Nat.reduceBEq, List.append_nil, Int.toNat_zero, Nat.sub_self, Int.reduceNeg, d0, d1, decide_true, mkB_toList]
        (refine hk _ ?_; clear hk k; try show Sat _ _ _ _ _)
        refine Sat.ret ?_
        simp only [Tryd.results48, evr, id, reduceCtorEq, reduceIte, Nat.reduceMul, Nat.reduceAdd, Nat.reduceLT, Nat.reduceLeDiff, Nat.reduceEqDiff, Int.reduceLT, Int.reduceBEq, Int.reduceBNe, Nat.reduceBEq, List.append_nil, Int.toNat_zero, Nat.sub_self, Int.reduceNeg]
        refine ⟨v, ?_, hsome⟩
        have e : (Lib.itoa v == l) = (numB l m).isSome := by
          cases hn : numB l m with
          | some n =>
            have h2 := (num_of_atoi hm hn).2
            rw [← hsome n hn] at h2
            simp [h2]
          | none =>
            have h3 := numB_none hn v.toNat (by omega)
            have h4 : Lib.itoa v = Lib.decDigits v.toNat := by unfold Lib.itoa; rw [if_neg (by omega)]
            rw [h4]
            simpa using h3
        first | rw [e] | simp only [e]
      · have d1 : (v ≤ (m : Int)) = False := eq_false h1
        have hn : numB l m = none := by
          cases hn : numB l m with
          | none => rfl
          | some n => have := hsome n hn; have := (numB_some hn).1; omega
        refine Sat.region_k fun k hk => ?_
        simp -implicitDefEqProofs only [evr, id, reduceCtorEq, reduceIte, Nat.reduceMul, Nat.reduceAdd, Nat.reduceLT, Nat.reduceLeDiff, Nat.reduceEqDiff, Int.reduceLT, Int.reduceBEq, Int.reduceBNe, Nat.reduceBEq, List.append_nil, Int.toNat_zero, Nat.sub_self, Int.reduceNeg, d0, d1, true_implies, not_true_eq_false, not_false_eq_true, false_implies, and_true, true_and, decide_false]
        (refine hk _ ?_; clear hk k; try show Sat _ _ _ _ _)
        refine Sat.ret ?_
        simp only [Tryd.results48, evr, id, reduceCtorEq, reduceIte, Nat.reduceMul, Nat.reduceAdd, Nat.reduceLT, Nat.reduceLeDiff, Nat.reduceEqDiff, Int.reduceLT, Int.reduceBEq, Int.reduceBNe, Nat.reduceBEq, List.append_nil, Int.toNat_zero, Nat.sub_self, Int.reduceNeg]
        exact ⟨v, by rw [hn]; rfl, hsome⟩
    · have d0 : (0 ≤ v) = False := eq_false h0
      have hn : numB l m = none := by
        cases hn : numB l m with
        | none => rfl
        | some n => have := hsome n hn; omega
      refine Sat.region_k fun k hk => ?_
      simp -implicitDefEqProofs only [evr, id, reduceCtorEq, reduceIte, Nat.reduceMul, Nat.reduceAdd, Nat.reduceLT, Nat.reduceLeDiff, Nat.reduceEqDiff, Int.reduceLT, Int.reduceBEq, Int.reduceBNe, Nat.reduceBEq, List.append_nil, Int.toNat_zero, Nat.sub_self, Int.reduceNeg, d0, true_implies, not_true_eq_false, not_false_eq_true, false_implies, and_true, true_and, decide_false]
      (refine hk _ ?_; clear hk k; try show Sat _ _ _ _ _)
      refine Sat.ret ?_
      simp only [Tryd.results48, evr, id, reduceCtorEq, reduceIte, Nat.reduceMul, Nat.reduceAdd, Nat.reduceLT, Nat.reduceLeDiff, Nat.reduceEqDiff, Int.reduceLT, Int.reduceBEq, Int.reduceBNe, Nat.reduceBEq, List.append_nil, Int.toNat_zero, Nat.sub_self, Int.reduceNeg]
      exact ⟨v, by rw [hn]; rfl, hsome⟩
  · simp -implicitDefEqProofs only [evr, id, reduceCtorEq, reduceIte, Nat.reduceMul, Nat.reduceAdd, Nat.reduceLT, Nat.reduceLeDiff, Nat.reduceEqDiff, Int.reduceLT, Int.reduceBEq, Int.reduceBNe, Nat.reduceBEq, List.append_nil, Int.toNat_zero, Nat.sub_self, Int.reduceNeg]
    (refine hk _ ?_; clear hk k; try show Sat _ _ _ _ _)
    (repeat refine Sat.seq ?_)
    refine Sat.region_k fun k hk => ?_
    simp -implicitDefEqProofs only [evr, id, reduceCtorEq, reduceIte, Nat.reduceMul, Nat.reduceAdd, Nat.reduceLT, Nat.reduceLeDiff, Nat.reduceEqDiff, Int.reduceLT, Int.reduceBEq, Int.reduceBNe, Nat.reduceBEq, List.append_nil, Int.toNat_zero, Nat.sub_self, Int.reduceNeg]
    (refine hk _ ?_; clear hk k; try show Sat _ _ _ _ _)
    refine Sat.ret ?_
    simp only [Tryd.results48, evr, id, reduceCtorEq, reduceIte, Nat.reduceMul, Nat.reduceAdd, Nat.reduceLT, Nat.reduceLeDiff, Nat.reduceEqDiff, Int.reduceLT, Int.reduceBEq, Int.reduceBNe, Nat.reduceBEq, List.append_nil, Int.toNat_zero, Nat.sub_self, Int.reduceNeg]
    exact ⟨v, by rw [hno]; rfl, fun n hn => by rw [hno] at hn; cases hn⟩
end Go.Proofs.YtceacooambpkdaaDoor
