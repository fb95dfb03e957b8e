/- Texts of addresses and prefixes: strconv.Itoa, address.Format, FormatPrefix, by the evaluator, where the table of powers of ten is known. -/
import Derived.Test.YtepkbbmjbbnhnaaGreatDoorPk4
import Derived.Test.YtepkbbmjbbnhnaaGreatDoorGlbE
import Derived.Test.YtepkbbmjbbnhnaaGreatDoorShelf
import Derived.Test.YtepkbbmjbbnhnaaGreatDoorAdrP
import Derived.Test.YtepkbbmjbbnhnaaGreatDoorWalkE
import Derived.Lib.AppendIntMem
set_option linter.unusedSimpArgs false
set_option linter.unusedVariables false
namespace Go.Proofs.YtepkbbmjbbnhnaaGreatDoor
open Go.RowKit Eng
theorem ofCalls1 {F : Frm} {P : Program} {f : FuncId} {fn : Func} {c : Code} {args : List SV} {post : SV → Prop} (hf : P.funcs[f]? = some fn) (hb : fn.body = some c) (hname : (fn.name == "runtime.NumGoroutine") = false)
    (h : ∀ (R : Nat → Prop) (w : World), (∀ s ∈ args, s.ok R w) → (∀ b, R b → b < w.heap.size) → Calls P f (args.map SV.den).toArray w fun e w' => ∃ r, e = .returned r.den ∧ post r ∧ r.ok (fun b => R b ∨ (w.heap.size ≤ b ∧ b < w'.heap.size)) w' ∧ Below w.heap.size w w') :
    Contract F P f args post := by
  refine ⟨fun vs w => ?_, fun R w hinv hargs hR => ?_⟩
  · have hn : ¬ fn.name = "runtime.NumGoroutine" := by simpa using hname
    simp [callFunc, hf, hn, hb]
  · refine (h R w hargs fun b hb => (hR b hb).1).mono ?_
    rintro e w' ⟨r, he, hp, hok, hbel⟩
    exact ⟨r, he, hp, hok, ⟨hbel.os, hbel.tape, hbel.output, hbel.size, fun b hb _ => hbel.block b hb⟩, F.stab w w' w.heap.size hinv (fun b hm => F.lt w b hinv hm) fun b hb => hbel.block b hb⟩
theorem below_refl (w : World) : Below w.heap.size w w := ⟨rfl, rfl, rfl, Nat.le_refl _, fun _ _ => rfl⟩
theorem joinC (F : Frm) {a : Option Addr} {len cap : Nat} {rd : Nat → Nat → SV} (xs : List ByteArray) (sep : ByteArray) (hl : xs.length = len) (hrd : ∀ (j : Nat) x, xs[j]? = some x → rd j 0 = .v (.string x)) (h0 : 0 < len) (hN : len ≤ 140737488355328) (hlen : (Lib.join (xs.map (·.data.toList)) sep.data.toList).length ≤ 140737488355328) :
    Contract F Tryz.prog 99 [.sl a len cap 1 rd, .v (.string sep)] (fun r => r = .v (.string ⟨(Lib.join (xs.map (·.data.toList)) sep.data.toList).toArray⟩)) := by
  subst hl
  refine ofCalls1 Tryz.func99 rfl (by kernel_rfl) fun R w hs hR => ?_
  obtain ⟨h1, h2, h3⟩ := hs _ List.mem_cons_self
  rcases h3 with h3 | ⟨blk, off, rfl, hr, hc⟩
  · omega
  refine (Tryz.strings_Join blk off cap xs sep w (fun j x hx => ?_) (hR _ hr) hN h1 hlen).mono ?_
  · have hj : j < xs.length := (List.getElem?_eq_some_iff.1 hx).1
    have h9 := (hc j 0 hj (by decide)).1
    rw [hrd j x hx, Nat.mul_one, Nat.add_zero] at h9
    exact h9
  · rintro e w' ⟨rfl, hb⟩
    exact ⟨_, rfl, rfl, trivial, hb⟩
def mkB (l : List UInt8) : ByteArray := ⟨l.toArray⟩
abbrev sB (l : List UInt8) : SV := .v (.string (mkB l))
theorem mkB_size (l : List UInt8) : (mkB l).size = l.length := by simp [mkB, ByteArray.size]
theorem mkB_list (l : List UInt8) : (mkB l).data.toList = l := rfl
theorem mkB_toList (l : List UInt8) : (mkB l).toList = l := by rw [ByteArray.toList_eq]; rfl
theorem mkB_of (s : ByteArray) : s = mkB s.data.toList := WideShapes.bytes_inj rfl
theorem mkB_inj {a b : ByteArray} (h : a.data.toList = b.data.toList) : a = b := WideShapes.bytes_inj h
theorem mkB_append (l m : List UInt8) : mkB l ++ mkB m = mkB (l ++ m) := mkB_inj (by simp [mkB, ByteArray.data_append])
theorem mkB_extract (l : List UInt8) (i j : Nat) : (mkB l).extract i j = mkB ((l.drop i).take (j - i)) := mkB_inj (by
  rw [mkB_list, ByteArray.data_extract, Array.toList_extract, List.extract_eq_take_drop]; rfl)
def TxT (w : World) : Prop := Lib.TabIs Tryz.prog w "internal/strconv.uint64pow10" .u64 Lib.pow10Tab
def txN : Nat := 1 + 1
theorem tx_low : LowFact txN TxT := tab_low (g := 1) (by kernel_rfl) (by decide)
theorem tx_lt {w : World} (h : TxT w) : txN ≤ w.heap.size := by
  have hg : Tryz.prog.globalNamed "internal/strconv.uint64pow10" = some 1 := by kernel_rfl
  have h3 : 1 < w.heap.size := by
    have ht := h
    unfold TxT Lib.TabIs World.var? at ht
    rw [hg] at ht
    simp only [Option.bind_some] at ht
    by_cases h0 : 1 < w.heap.size
    · exact h0
    · rw [Array.getElem?_eq_none (by omega)] at ht; cases ht
  unfold txN
  omega
abbrev FrA : Frm := Frm.tab txN TxT tx_low
theorem ofCallsT {P : Program} {f : FuncId} {fn : Func} {c : Code} {args : List SV} {post : SV → Prop} {N : Nat} {T : World → Prop} {hT : LowFact N T} (hf : P.funcs[f]? = some fn) (hb : fn.body = some c) (hname : (fn.name == "runtime.NumGoroutine") = false)
    (h : ∀ (R : Nat → Prop) (w : World), T w → (∀ s ∈ args, s.ok R w) → (∀ b, R b → b < w.heap.size) → Calls P f (args.map SV.den).toArray w fun e w' => ∃ r, e = .returned r.den ∧ post r ∧ r.ok (fun b => R b ∨ (w.heap.size ≤ b ∧ b < w'.heap.size)) w' ∧ Below w.heap.size w w') :
    Contract (Frm.tab N T hT) P f args post := by
  refine ⟨fun vs w => ?_, fun R w hinv hargs hR => ?_⟩
  · have hn : ¬ fn.name = "runtime.NumGoroutine" := by simpa using hname
    simp [callFunc, hf, hn, hb]
  · refine (h R w hinv.2 hargs fun b hb => (hR b hb).1).mono ?_
    rintro e w' ⟨r, he, hp, hok, hbel⟩
    exact ⟨r, he, hp, hok, ⟨hbel.os, hbel.tape, hbel.output, hbel.size, fun b hb _ => hbel.block b hb⟩, (Frm.tab N T hT).stab w w' w.heap.size hinv (fun b hm => (Frm.tab N T hT).lt w b hinv hm) fun b hb => hbel.block b hb⟩
theorem itoaC (n : Int) (h0 : -9223372036854775808 ≤ n) (h1 : n ≤ 9223372036854775807) : Contract FrA Tryz.prog 55 [.i .i64 n] (fun r => r = sB (Lib.itoa n)) := by
  refine ofCallsT Tryz.func55 rfl (by kernel_rfl) fun R w hT hs hR => ?_
  refine (Tryz.strconv_Itoa n h0 h1 w hT).mono ?_
  rintro e w' ⟨rfl, k, os, rfl⟩
  refine ⟨_, rfl, rfl, trivial, ?_⟩
  exact Lib.below_grow _ _ (Nat.le_refl _) _ _
def octS (a i : Nat) : SV := sB (Lib.itoa (octet a i : Nat))
theorem itoa_nat (n : Nat) : Lib.itoa (n : Int) = Lib.decDigits n := by unfold Lib.itoa; rw [if_neg (by omega)]; rfl
theorem octS_eq (a i : Nat) : octS a i = .v (.string (mkB (Lib.decDigits (octet a i)))) := by unfold octS; rw [itoa_nat]
theorem dig_len : ∀ n : Fin 1000, (Lib.decDigits n.val).length ≤ 3 := by decide +kernel
theorem and255u {n : Nat} (hn : n < 2 ^ 32) : bits .and .u32 (n : Int) 255 = ((n % 256 : Nat) : Int) := by
  show IntKind.u32.wrap ((BitVec.ofInt 32 (n : Int) &&& BitVec.ofInt 32 255).toNat : Int) = _
  have e : (BitVec.ofInt 32 255).toNat = 2 ^ 8 - 1 := by decide
  rw [BitVec.toNat_and, ofInt_u n hn, e, Nat.and_two_pow_sub_one_eq_mod]
  exact w32u _ (by omega) (by omega)
theorem oct_eq {a i : Nat} (ha : a < 2 ^ 32) (hi : i < 4) : IntKind.i64.wrap (bits BinOp.and IntKind.u32 (Int.fdiv (a : Int) (2 ^ min (24 - 8 * (i : Int)).toNat IntKind.u32.bits)) 255) = (octet a i : Int) := by
  have e1 : (24 - 8 * (i : Int)).toNat = 24 - 8 * i := by omega
  have e2 : min (24 - 8 * i) IntKind.u32.bits = 24 - 8 * i := by show min (24 - 8 * i) 32 = _; omega
  have e3 : (2 : Int) ^ (24 - 8 * i) = ((2 ^ (24 - 8 * i) : Nat) : Int) := by simp
  have hle : a / 2 ^ (24 - 8 * i) ≤ a := Nat.div_le_self _ _
  rw [e1, e2, e3, Int.fdiv_eq_ediv_of_nonneg _ (Int.natCast_nonneg _), ← Int.natCast_ediv, and255u (Nat.lt_of_le_of_lt hle ha)]
  have := octet_lt a i
  exact w64 (by unfold octet at this; omega)
theorem oct_join (a : Nat) : Lib.join (((List.range 4).map fun i => mkB (Lib.decDigits (octet a i))).map (·.data.toList)) (⟨#[46]⟩ : ByteArray).data.toList = fmtB a := by
  show Lib.join [Lib.decDigits (octet a 0), Lib.decDigits (octet a 1), Lib.decDigits (octet a 2), Lib.decDigits (octet a 3)] [46] = fmtB a
  unfold Lib.join fmtB
  simp [List.intercalate, List.intersperse]
theorem fmt_short (a : Nat) : (fmtB a).length ≤ 15 := by
  have h := fun i => dig_len ⟨octet a i, by have := octet_lt a i; omega⟩
  have h0 := h 0
  have h1 := h 1
  have h2 := h 2
  have h3 := h 3
  unfold fmtB
  simp only [List.length_append, List.length_cons] at *
  omega
theorem fmt_len (a : Nat) : (fmtB a).length ≤ 140737488355328 := Nat.le_trans (fmt_short a) (by decide)
set_option maxRecDepth 100000 in
theorem formatC (a0 : Nat) (ha : a0 < 2 ^ 32) : Contract FrA Tryz.prog 79 [.i .u32 a0] (fun r => r = sB (fmtB a0)) := by
  refine contract_of Tryz.func79 rfl (by kernel_rfl) ?_
  simp only [Tryz.ntmps79, argEnv]
  (repeat refine Sat.seq ?_)
  (refine Sat.region_k fun k hk => ?_; simp -implicitDefEqProofs only [evr, id, reduceCtorEq, reduceIte, Nat.reduceMul, Nat.reduceAdd, Nat.reduceLT, Nat.reduceLeDiff, Nat.reduceEqDiff, Int.reduceLT, Int.reduceBEq, Int.reduceBNe, Nat.reduceBEq, Int.reduceNeg, evn]; refine hk _ ?_; clear hk k; try show Sat _ _ _ _ _)
  (repeat refine Sat.seq ?_)
  (refine Sat.region_k fun k hk => ?_; simp -implicitDefEqProofs only [evr, id, reduceCtorEq, reduceIte, Nat.reduceMul, Nat.reduceAdd, Nat.reduceLT, Nat.reduceLeDiff, Nat.reduceEqDiff, Int.reduceLT, Int.reduceBEq, Int.reduceBNe, Nat.reduceBEq, Int.reduceNeg, evn]; refine hk _ ?_; clear hk k; try show Sat _ _ _ _ _)
  (repeat refine Sat.seq ?_)
  (refine Sat.region_k fun k hk => ?_; simp -implicitDefEqProofs only [evr, id, reduceCtorEq, reduceIte, Nat.reduceMul, Nat.reduceAdd, Nat.reduceLT, Nat.reduceLeDiff, Nat.reduceEqDiff, Int.reduceLT, Int.reduceBEq, Int.reduceBNe, Nat.reduceBEq, Int.reduceNeg, evn]; refine hk _ ?_; clear hk k; try show Sat _ _ _ _ _)
  (repeat refine Sat.seq ?_)
  refine Sat.block ?_
  refine Sat.adopt 3 9 1 (fun p _ => octS a0 p) rfl ?_
  refine Sat.loop (ι := Nat × Option Addr × Nat) (fun x => ⟨20, [(4, .i .i64 (24 - 8 * (x.1 : Int))), (3, .os 0 x.2.1 x.1 x.2.2), (0, .i .u32 a0)], [.row x.2.1 9 x.1 x.2.2 1 (fun p _ => octS a0 p)]⟩) (fun x => x.1 ≤ 4) (fun x => 4 - x.1) (0, none, 0) (by decide) (by simp -implicitDefEqProofs only [evr, id, reduceCtorEq, reduceIte, Nat.reduceMul, Nat.reduceAdd, Nat.reduceLT, Nat.reduceLeDiff, Nat.reduceEqDiff, Int.reduceLT, Int.reduceBEq, Int.reduceBNe, Nat.reduceBEq, Int.reduceNeg, evl, evn]; rfl) ?_
  rintro ⟨i, a, c⟩ hi
  simp only at hi ⊢
  (repeat refine Sat.seq ?_)
  (refine Sat.region_k fun k hk => ?_; simp -implicitDefEqProofs only [evr, id, reduceCtorEq, reduceIte, Nat.reduceMul, Nat.reduceAdd, Nat.reduceLT, Nat.reduceLeDiff, Nat.reduceEqDiff, Int.reduceLT, Int.reduceBEq, Int.reduceBNe, Nat.reduceBEq, Int.reduceNeg, evn]; refine hk _ ?_; clear hk k; try show Sat _ _ _ _ _)
  (repeat refine Sat.seq ?_)
  refine Sat.cond_b rfl (fun h => ?_) (fun h => ?_)
  · simp only [decide_eq_true_eq] at h
    have hi4 : i < 4 := by omega
    refine Sat.skip ?_
    simp only [thenK]
    (repeat refine Sat.seq ?_)
    refine Sat.block ?_
    (repeat refine Sat.seq ?_)
    have e14 := oct_eq ha hi4
    have e4 : IntKind.i64.wrap (24 - 8 * (i : Int) - 8) = 24 - 8 * ((i + 1 : Nat) : Int) := by rw [w64 (by omega)]; omega
    refine Sat.region_k fun k hk => ?_
    simp -implicitDefEqProofs only [evr, id, reduceCtorEq, reduceIte, Nat.reduceMul, Nat.reduceAdd, Nat.reduceLT, Nat.reduceLeDiff, Nat.reduceEqDiff, Int.reduceLT, Int.reduceBEq, Int.reduceBNe, Nat.reduceBEq, Int.reduceNeg, e14, evn]
    refine ⟨by omega, ?_⟩
    refine wcall_plain (itoaC (octet a0 i) (by omega) (by have := octet_lt a0 i; omega)) rfl (by rintro _ rfl; exact ok_plain rfl) ?_
    rintro r rfl
    simp -implicitDefEqProofs only [evr, id, reduceCtorEq, reduceIte, Nat.reduceMul, Nat.reduceAdd, Nat.reduceLT, Nat.reduceLeDiff, Nat.reduceEqDiff, Int.reduceLT, Int.reduceBEq, Int.reduceBNe, Nat.reduceBEq, Int.reduceNeg, evn]
    intro blk
    refine ⟨⟨by unfold maxLen; omega, by omega⟩, fun a2 cap2 => ?_⟩
    (refine hk _ ?_; clear hk k; try show Sat _ _ _ _ _)
    (repeat refine Sat.seq ?_)
    refine Sat.region_k fun k hk => ?_
    simp -implicitDefEqProofs only [evr, id, reduceCtorEq, reduceIte, Nat.reduceMul, Nat.reduceAdd, Nat.reduceLT, Nat.reduceLeDiff, Nat.reduceEqDiff, Int.reduceLT, Int.reduceBEq, Int.reduceBNe, Nat.reduceBEq, Int.reduceNeg, e4, evn]
    refine hk _ ?_
    simp only [thenK, blockK]
    refine ⟨(i + 1, a2, cap2), by show i + 1 ≤ 4; omega, by show 4 - (i + 1) < 4 - i; omega, ?_⟩
    simp -implicitDefEqProofs only [evr, id, reduceCtorEq, reduceIte, Nat.reduceMul, Nat.reduceAdd, Nat.reduceLT, Nat.reduceLeDiff, Nat.reduceEqDiff, Int.reduceLT, Int.reduceBEq, Int.reduceBNe, Nat.reduceBEq, Int.reduceNeg, evl, evn]
    exact rdEq_one (rdEq_refl _ _ _) rfl
  · simp only [decide_eq_false_iff_not] at h
    obtain rfl : i = 4 := by omega
    refine Sat.exit ?_
    simp only [thenK, blockK, reduceIte]
    (repeat refine Sat.seq ?_)
    (refine Sat.region_k fun k hk => ?_; simp -implicitDefEqProofs only [evr, id, reduceCtorEq, reduceIte, Nat.reduceMul, Nat.reduceAdd, Nat.reduceLT, Nat.reduceLeDiff, Nat.reduceEqDiff, Int.reduceLT, Int.reduceBEq, Int.reduceBNe, Nat.reduceBEq, Int.reduceNeg, evn])
    refine wcall_slice (joinC FrA (a := a) (len := 4) (cap := c) (rd := fun p _ => octS a0 p) ((List.range 4).map fun i => mkB (Lib.decDigits (octet a0 i))) ⟨#[46]⟩ rfl (fun j x hx => ?_) (by decide) (by decide) (by rw [oct_join]; exact fmt_len a0)) rfl (by simp -implicitDefEqProofs only [evr, id, reduceCtorEq, reduceIte, Nat.reduceMul, Nat.reduceAdd, Nat.reduceLT, Nat.reduceLeDiff, Nat.reduceEqDiff, Int.reduceLT, Int.reduceBEq, Int.reduceBNe, Nat.reduceBEq, Int.reduceNeg, evn]; try rfl) ?_
    · rw [List.getElem?_map] at hx
      rcases hj : (List.range 4)[j]? with _ | y
      · rw [hj] at hx; cases hx
      · rw [hj] at hx
        have : y = j := by
          have := List.getElem?_eq_some_iff.1 hj
          obtain ⟨_, h2⟩ := this
          rw [List.getElem_range] at h2
          exact h2.symm
        subst this
        cases hx
        show octS a0 y = .v (.string (mkB (Lib.decDigits (octet a0 y))))
        exact octS_eq a0 y
    rintro r rfl
    simp -implicitDefEqProofs only [evr, id, reduceCtorEq, reduceIte, Nat.reduceMul, Nat.reduceAdd, Nat.reduceLT, Nat.reduceLeDiff, Nat.reduceEqDiff, Int.reduceLT, Int.reduceBEq, Int.reduceBNe, Nat.reduceBEq, Int.reduceNeg, evn]
    (refine hk _ ?_; clear hk k; try show Sat _ _ _ _ _)
    refine Sat.ret ?_
    simp only [Tryz.results79, evr, id, reduceCtorEq, reduceIte, Nat.reduceMul, Nat.reduceAdd, Nat.reduceLT, Nat.reduceLeDiff, Nat.reduceEqDiff, Int.reduceLT, Int.reduceBEq, Int.reduceBNe, Nat.reduceBEq, List.append_nil, Int.toNat_zero, Nat.sub_self, Int.reduceNeg]
    exact congrArg (fun l : List UInt8 => SV.v (.string ⟨l.toArray⟩)) (oct_join a0)
theorem cat_ok {x y : ByteArray} (h : x.size + y.size ≤ 1000000) : (((x.size + y.size : Nat) : Int) ≤ IntKind.i64.max) = True := by
  have e : IntKind.i64.max = 9223372036854775807 := by decide
  rw [e]
  exact eq_true (by omega)
set_option maxRecDepth 100000 in
theorem formatPrefixC (p : Prf) (hp : prOk p) : Contract FrA Tryz.prog 53 [prS p] (fun r => r = sB (fmtP p)) := by
  refine contract_of Tryz.func53 rfl (by kernel_rfl) ?_
  simp only [Tryz.ntmps53, argEnv, prS, prC]
  (repeat refine Sat.seq ?_)
  (refine Sat.region_k fun k hk => ?_; simp -implicitDefEqProofs only [evr, id, reduceCtorEq, reduceIte, Nat.reduceMul, Nat.reduceAdd, Nat.reduceLT, Nat.reduceLeDiff, Nat.reduceEqDiff, Int.reduceLT, Int.reduceBEq, Int.reduceBNe, Nat.reduceBEq, Int.reduceNeg, evn])
  intro b1
  (refine hk _ ?_; clear hk k; try show Sat _ _ _ _ _)
  (repeat refine Sat.seq ?_)
  (refine Sat.region_k fun k hk => ?_; simp -implicitDefEqProofs only [evr, id, reduceCtorEq, reduceIte, Nat.reduceMul, Nat.reduceAdd, Nat.reduceLT, Nat.reduceLeDiff, Nat.reduceEqDiff, Int.reduceLT, Int.reduceBEq, Int.reduceBNe, Nat.reduceBEq, Int.reduceNeg, evn])
  refine wcall_plain (validC FrA p hp) (by simp only [prS, prC, evr, id, reduceCtorEq, reduceIte, Nat.reduceMul, Nat.reduceAdd, Nat.reduceLT, Nat.reduceLeDiff, Nat.reduceEqDiff, Int.reduceLT, Int.reduceBEq, Int.reduceBNe, Nat.reduceBEq, List.append_nil, Int.toNat_zero, Nat.sub_self, Int.reduceNeg]; try rfl) (by rintro _ rfl; exact ok_plain rfl) ?_
  rintro r rfl
  simp -implicitDefEqProofs only [evr, id, reduceCtorEq, reduceIte, Nat.reduceMul, Nat.reduceAdd, Nat.reduceLT, Nat.reduceLeDiff, Nat.reduceEqDiff, Int.reduceLT, Int.reduceBEq, Int.reduceBNe, Nat.reduceBEq, Int.reduceNeg, evn]
  (refine hk _ ?_; clear hk k; try show Sat _ _ _ _ _)
  refine Sat.cond_b rfl (fun h => ?_) (fun h => ?_)
  · have hv : ¬ vld p = true := by simpa using h
    (repeat refine Sat.seq ?_)
    (refine Sat.region_k fun k hk => ?_; simp -implicitDefEqProofs only [evr, id, reduceCtorEq, reduceIte, Nat.reduceMul, Nat.reduceAdd, Nat.reduceLT, Nat.reduceLeDiff, Nat.reduceEqDiff, Int.reduceLT, Int.reduceBEq, Int.reduceBNe, Nat.reduceBEq, Int.reduceNeg, evn]; refine hk _ ?_; clear hk k; try show Sat _ _ _ _ _)
    refine Sat.ret ?_
    simp only [Tryz.results53, evr, id, reduceCtorEq, reduceIte, Nat.reduceMul, Nat.reduceAdd, Nat.reduceLT, Nat.reduceLeDiff, Nat.reduceEqDiff, Int.reduceLT, Int.reduceBEq, Int.reduceBNe, Nat.reduceBEq, List.append_nil, Int.toNat_zero, Nat.sub_self, Int.reduceNeg]
    unfold fmtP
    rw [if_neg hv]
    rfl
  · have hv : vld p = true := by simpa using h
    obtain ⟨h1, h2, h3⟩ := vld_iff.1 hv
    obtain ⟨m, hm⟩ := Int.eq_ofNat_of_zero_le h1
    have hsh := fmt_short p.addr
    have hdl := dig_len ⟨m, by omega⟩
    simp only at hdl
    refine Sat.skip ?_
    simp only [thenK]
    (repeat refine Sat.seq ?_)
    (refine Sat.region_rows [⟨0, 7, 2, 0⟩, ⟨1, 8, 64, 1⟩, ⟨2, 9, 128, 2⟩, ⟨4, 10, 256, 0⟩, ⟨0, 11, 2, 0⟩, ⟨16, 12, 1024, 1⟩, ⟨36, 13, 2048, 2⟩, ⟨72, 14, 4608, 0⟩, ⟨255, 3, 8192, 0⟩] [0, 4, 1, 5] [(2, false), (3, true), (6, false), (7, false), (8, false)] [2, 3] (by kernel_rfl) (by kernel_rfl) (fun _ _ h => h) fun k hk => ?_; simp only [List.map_cons, List.map_nil, List.getD_cons_zero, List.getD_cons_succ, btseq_cons, btseq_free, btseq_nil]; simp -implicitDefEqProofs only [evr, id, reduceCtorEq, reduceIte, Nat.reduceMul, Nat.reduceAdd, Nat.reduceLT, Nat.reduceLeDiff, Nat.reduceEqDiff, Int.reduceLT, Int.reduceBEq, Int.reduceBNe, Nat.reduceBEq, Int.reduceNeg, evn])
    refine wcall_plain (formatC p.addr hp) rfl (by rintro _ rfl; exact ok_plain rfl) ?_
    rintro r rfl
    have c1 := cat_ok (x := mkB (fmtB p.addr)) (y := ⟨#[47]⟩) (by rw [mkB_size]; show _ + 1 ≤ _; omega)
    simp -implicitDefEqProofs only [evr, id, reduceCtorEq, reduceIte, Nat.reduceMul, Nat.reduceAdd, Nat.reduceLT, Nat.reduceLeDiff, Nat.reduceEqDiff, Int.reduceLT, Int.reduceBEq, Int.reduceBNe, Nat.reduceBEq, Int.reduceNeg, c1, evn]
    refine wcall_plain (itoaC p.len (by omega) (by omega)) rfl (by rintro _ rfl; exact ok_plain rfl) ?_
    rintro r rfl
    rw [hm, itoa_nat]
    have e47 : (⟨#[47]⟩ : ByteArray) = mkB [47] := rfl
    have c2 := cat_ok (x := mkB (fmtB p.addr) ++ ⟨#[47]⟩) (y := mkB (Lib.decDigits m)) (by rw [e47, mkB_append, mkB_size, mkB_size, List.length_append]; show _ + 1 + _ ≤ _; omega)
    simp -implicitDefEqProofs only [evr, id, reduceCtorEq, reduceIte, Nat.reduceMul, Nat.reduceAdd, Nat.reduceLT, Nat.reduceLeDiff, Nat.reduceEqDiff, Int.reduceLT, Int.reduceBEq, Int.reduceBNe, Nat.reduceBEq, Int.reduceNeg, c2, evn]
    (refine hk _ ?_; clear hk k; try show Sat _ _ _ _ _)
    refine Sat.ret ?_
    simp only [Tryz.results53, evr, id, reduceCtorEq, reduceIte, Nat.reduceMul, Nat.reduceAdd, Nat.reduceLT, Nat.reduceLeDiff, Nat.reduceEqDiff, Int.reduceLT, Int.reduceBEq, Int.reduceBNe, Nat.reduceBEq, List.append_nil, Int.toNat_zero, Nat.sub_self, Int.reduceNeg]
    unfold fmtP
    rw [if_pos hv, e47, mkB_append, mkB_append, List.append_assoc, hm]
    rfl
end Go.Proofs.YtepkbbmjbbnhnaaGreatDoor
