/- The library's texts that package natural calls: Itoa, Repeat, Join, Trim, Reverse, for the evaluator. -/
import Derived.Test.YtgdbcpljdibliaaGreatDoorNatR
import Derived.Test.YtgdbcpljdibliaaGreatDoorShelf
import Derived.Test.YtgdbcpljdibliaaGreatDoorGlbE
import Derived.Shelf.Strings.SlTrimAscii
import Derived.Lib.SlTrimSet
import Derived.Lib.AppendIntMem
set_option linter.unusedSimpArgs false
set_option linter.unusedVariables false
namespace Go.Proofs.YtgdbcpljdibliaaGreatDoor
namespace Tq
open Go.RowKit Eng
def mkB (l : List UInt8) : ByteArray := ⟨l.toArray⟩
abbrev sB (l : List UInt8) : SV := .v (.string (mkB l))
theorem mkB_size (l : List UInt8) : (mkB l).size = l.length := by simp [mkB, ByteArray.size]
theorem mkB_list (l : List UInt8) : (mkB l).data.toList = l := rfl
theorem mkB_inj {a b : ByteArray} (h : a.data.toList = b.data.toList) : a = b := WideShapes.bytes_inj h
theorem mkB_append (l m : List UInt8) : mkB l ++ mkB m = mkB (l ++ m) := mkB_inj (by simp [mkB, ByteArray.data_append])
def TxT (w : World) : Prop := Lib.TabIs Tryz.prog w "internal/strconv.uint64pow10" .u64 Lib.pow10Tab
theorem tx_low : LowFact (3 + 1) TxT := tab_low (g := 3) (by kernel_rfl) (by decide)
abbrev FrA : Frm := Frm.tab (3 + 1) TxT tx_low
theorem ofCallsT {P : Program} {f : FuncId} {fn : Func} {c : Code} {args : List SV} {post : SV → Prop} {N : Nat} {T : World → Prop} {hT : LowFact N T} (hf : P.funcs[f]? = some fn) (hb : fn.body = some c) (hname : (fn.name == "runtime.NumGoroutine") = false)
    (h : ∀ (R : Nat → Prop) (w : World), T w → (∀ s ∈ args, s.ok R w) → (∀ b, R b → b < w.heap.size) → Calls P f (args.map SV.den).toArray w fun e w' => ∃ r, e = .returned r.den ∧ post r ∧ r.ok (fun b => R b ∨ (w.heap.size ≤ b ∧ b < w'.heap.size)) w' ∧ Below w.heap.size w w') :
    Contract (Frm.tab N T hT) P f args post := by
  refine ⟨fun vs w => ?_, fun R w hinv hargs hR => ?_⟩
  · have hn : ¬ fn.name = "runtime.NumGoroutine" := by simpa using hname
    simp [callFunc, hf, hn, hb]
  · refine (h R w hinv.2 hargs fun b hb => (hR b hb).1).mono ?_
    rintro e w' ⟨r, he, hp, hok, hbel⟩
    exact ⟨r, he, hp, hok, ⟨hbel.os, hbel.tape, hbel.output, hbel.size, fun b hb _ => hbel.block b hb⟩, (Frm.tab N T hT).stab w w' w.heap.size hinv (fun b hm => (Frm.tab N T hT).lt w b hinv hm) fun b hb => hbel.block b hb⟩
theorem itoaC (n : Int) (h0 : -9223372036854775808 ≤ n) (h1 : n ≤ 9223372036854775807) : Contract FrA Tryz.prog 78 [.i .i64 n] (fun r => r = sB (Lib.itoa n)) := by
  refine ofCallsT Tryz.func78 rfl (by kernel_rfl) fun R w hT hs hR => ?_
  refine (Tryz.strconv_Itoa n h0 h1 w hT).mono ?_
  rintro e w' ⟨rfl, k, os, rfl⟩
  refine ⟨_, rfl, rfl, trivial, ?_⟩
  exact Lib.below_grow _ _ (Nat.le_refl _) _ _
theorem repeatC (F : Frm) (l : List UInt8) (c : Nat) (hc : c ≤ 1000) (hl : l.length ≤ 1000) : Contract F Tryz.prog 79 [sB l, .i .i64 c] (fun r => r = sB (Lib.repeatL l c)) := by
  refine ofCalls Tryz.func79 rfl (by kernel_rfl) fun R w hs hR => ?_
  have hm : l.length * c ≤ 1000 * 1000 := Nat.mul_le_mul hl hc
  refine (Tryz.strings_Repeat (mkB l) c w (by omega) (by rw [mkB_size]; omega)).mono ?_
  rintro e w' ⟨rfl, hb⟩
  exact ⟨_, rfl, rfl, trivial, hb⟩
theorem joinC (F : Frm) {a : Option Addr} {len cap : Nat} {rd : Nat → Nat → SV} (xs : List ByteArray) (sep : ByteArray) (hl : xs.length = len) (hrd : ∀ (j : Nat) x, xs[j]? = some x → rd j 0 = .v (.string x)) (h0 : 0 < len) (hN : len ≤ 140737488355328) (hlen : (Lib.join (xs.map (·.data.toList)) sep.data.toList).length ≤ 140737488355328) :
    Contract F Tryz.prog 81 [.sl a len cap 1 rd, .v (.string sep)] (fun r => r = .v (.string ⟨(Lib.join (xs.map (·.data.toList)) sep.data.toList).toArray⟩)) := by
  subst hl
  refine ofCalls Tryz.func81 rfl (by kernel_rfl) fun R w hs hR => ?_
  obtain ⟨h1, h2, h3⟩ := hs _ List.mem_cons_self
  rcases h3 with h3 | ⟨blk, off, rfl, hr, hc⟩
  · omega
  refine (Tryz.strings_Join blk off cap xs sep w (fun j x hx => ?_) (hR _ hr) hN h1 hlen).mono ?_
  · have hj : j < xs.length := (List.getElem?_eq_some_iff.1 hx).1
    have h9 := (hc j 0 hj (by decide)).1
    rw [hrd j x hx, Nat.mul_one, Nat.add_zero] at h9
    exact h9
  · rintro e w' ⟨rfl, hb⟩
    exact ⟨_, rfl, rfl, trivial, hb⟩
def digSet : List UInt8 := [48, 49, 50, 51, 52, 53, 54, 55, 56, 57]
theorem trimC (F : Frm) (l : List UInt8) (hl : l.length ≤ 140737488355328) : Contract F Tryz.prog 73 [sB l, sB digSet] (fun r => r = sB (Lib.trimS l digSet)) := by
  refine ofCalls Tryz.func73 rfl (by kernel_rfl) fun R w hs hR => ?_
  refine (Any.strings_Trim_laid Tryz.lays160 (by kernel_rfl) (mkB l) (mkB digSet) w (by rw [mkB_size]; omega) (by decide) (ascii_of_all (by decide))).mono ?_
  rintro e w' ⟨rfl, hb⟩
  exact ⟨_, rfl, rfl, trivial, hb⟩
def strRd (xs : List (List UInt8)) : Nat → Nat → SV := fun i _ => sB (xs.getD i [])
theorem getD_setS {xs : List (List UInt8)} (i j : Nat) (v : List UInt8) (h : i < xs.length) : (xs.set i v).getD j [] = if i = j then v else xs.getD j [] := by
  simp only [List.getD, List.getElem?_set]
  by_cases e : i = j
  · subst e; simp [h]
  · simp [e]
theorem str_set2 {ys : List (List UInt8)} {n i j : Nat} {u v : List UInt8} (hi : i < ys.length) (hj : j < ys.length) : rdEq n 1 (rdSet (rdSet (strRd ys) i 0 [sB u]) j 0 [sB v]) (strRd ((ys.set i u).set j v)) := by
  intro p q hp hq
  obtain rfl : q = 0 := by omega
  have e : strRd ((ys.set i u).set j v) p 0 = sB (if j = p then v else if i = p then u else ys.getD p []) := by
    unfold strRd
    rw [getD_setS _ _ _ (by rw [List.length_set]; exact hj), getD_setS _ _ _ hi]
  rw [e]
  unfold rdSet
  by_cases h1 : p = j
  · subst h1; simp
  · by_cases h2 : p = i
    · subst h2; simp [h1, Ne.symm h1]
    · simp [h1, h2, Ne.symm h1, Ne.symm h2, strRd]
theorem str_0 (xs : List (List UInt8)) (i : Nat) : strRd xs i 0 = sB (xs.getD i []) := rfl
structure RevInv (xs : List (List UInt8)) (i : Nat) (ys : List (List UInt8)) : Prop where
  len : ys.length = xs.length
  at_ : ∀ j, j < xs.length → ys.getD j [] = if j < i ∨ xs.length - 1 - j < i then xs.getD (xs.length - 1 - j) [] else xs.getD j []
theorem RevInv.step {xs ys : List (List UInt8)} {i : Nat} (h : RevInv xs i ys) (hi : i < xs.length - 1 - i) : RevInv xs (i + 1) ((ys.set i (ys.getD (xs.length - 1 - i) [])).set (xs.length - 1 - i) (ys.getD i [])) := by
  have hl := h.len
  refine ⟨by rw [List.length_set, List.length_set]; exact h.len, fun j hj => ?_⟩
  rw [getD_setS _ _ _ (by rw [List.length_set]; omega), getD_setS _ _ _ (by omega)]
  by_cases h1 : xs.length - 1 - i = j
  · rw [if_pos h1, h.at_ i (by omega), if_neg (by omega), if_pos (by omega)]
    congr 1
    omega
  · rw [if_neg h1]
    by_cases h2 : i = j
    · subst h2
      rw [if_pos rfl, h.at_ _ (by omega), if_neg (by omega), if_pos (by omega)]
    · rw [if_neg h2, h.at_ j hj]
      by_cases h3 : j < i ∨ xs.length - 1 - j < i
      · rw [if_pos h3, if_pos (by omega)]
      · rw [if_neg h3, if_neg (by omega)]
theorem RevInv.done {xs ys : List (List UInt8)} {i : Nat} (h : RevInv xs i ys) (hi : ¬ (i : Int) < (xs.length : Int) - 1 - i) : ys = xs.reverse := by
  have hl := h.len
  apply List.ext_getElem?
  intro j
  by_cases hj : j < xs.length
  · have := h.at_ j hj
    rw [List.getElem?_reverse hj]
    have e1 : ys[j]? = some (ys.getD j []) := by simp [List.getD, show j < ys.length by omega]
    have e2 : xs[xs.length - 1 - j]? = some (xs.getD (xs.length - 1 - j) []) := by simp [List.getD, show xs.length - 1 - j < xs.length by omega]
    rw [e1, e2, this]
    split
    · rfl
    · congr 2; omega
  · rw [List.getElem?_eq_none (by omega), List.getElem?_eq_none (by rw [List.length_reverse]; omega)]
set_option maxRecDepth 100000 in
theorem reverseC (F : Frm) (a : Option Addr) (cap : Nat) (xs : List (List UInt8)) (hl : xs.length ≤ 100000) : ContractM F Tryz.prog 80 [.os 0 a xs.length cap] (.row a 9 xs.length cap 1 (strRd xs)) (fun r o1 => r = tupL [] ∧ o1 = .row a 9 xs.length cap 1 (strRd xs.reverse)) := by
  refine contractM_of Tryz.func80 rfl (by kernel_rfl) (by rintro r o1 ⟨rfl, rfl⟩; cases a <;> rfl) ?_
  simp only [Tryz.ntmps80, argEnv]
  have e0 : IntKind.i64.wrap ((xs.length : Int) - 1) = (xs.length : Int) - 1 - ((0 : Nat) : Int) := by rw [w64 (by omega)]; omega
  (repeat refine Sat.seq ?_)
  refine Sat.region_k fun k hk => ?_
  simp -implicitDefEqProofs only [evr, id, reduceCtorEq, reduceIte, Nat.reduceMul, Nat.reduceAdd, Nat.reduceLT, Nat.reduceLeDiff, Nat.reduceEqDiff, Int.reduceLT, Int.reduceBEq, Int.reduceBNe, Nat.reduceBEq, str_0, e0, evn]
  (refine hk _ ?_; clear hk k; try show Sat _ _ _ _ _)
  refine Sat.block ?_
  (repeat refine Sat.seq ?_)
  refine Sat.loop (ι := Nat × List (List UInt8)) (fun x => ⟨28, [(2, .i .i64 x.1), (3, .i .i64 ((xs.length : Int) - 1 - (x.1 : Nat))), (0, .os 0 a xs.length cap)], [.row a 9 xs.length cap 1 (strRd x.2)]⟩) (fun x => RevInv xs x.1 x.2) (fun x => xs.length - x.1) (0, xs) ⟨rfl, fun j hj => by rw [if_neg (by omega)]⟩ (by simp -implicitDefEqProofs only [evr, id, reduceCtorEq, reduceIte, Nat.reduceMul, Nat.reduceAdd, Nat.reduceLT, Nat.reduceLeDiff, Nat.reduceEqDiff, Int.reduceLT, Int.reduceBEq, Int.reduceBNe, Nat.reduceBEq, str_0, evl, evn]; repeat' (first | rfl | (refine And.intro ?_ ?_))) ?_
  rintro ⟨i, ys⟩ hinv
  simp only at hinv ⊢
  have hlen := hinv.len
  (repeat refine Sat.seq ?_)
  (refine Sat.region_k fun k hk => ?_; simp -implicitDefEqProofs only [evr, id, reduceCtorEq, reduceIte, Nat.reduceMul, Nat.reduceAdd, Nat.reduceLT, Nat.reduceLeDiff, Nat.reduceEqDiff, Int.reduceLT, Int.reduceBEq, Int.reduceBNe, Nat.reduceBEq, str_0, evn]; refine hk _ ?_; clear hk k; try show Sat _ _ _ _ _)
  (repeat refine Sat.seq ?_)
  refine Sat.cond_b rfl (fun h => ?_) (fun h => ?_)
  · have h1 : i < xs.length - 1 - i := by have := of_decide_eq_true h; omega
    clear h
    have hj : (xs.length : Int) - 1 - (i : Nat) = ((xs.length - 1 - i : Nat) : Int) := by omega
    have e1 : IntKind.i64.wrap ((i : Int) + 1) = ((i + 1 : Nat) : Int) := by rw [w64 (by omega)]; omega
    have e2 : IntKind.i64.wrap (((xs.length - 1 - i : Nat) : Int) - 1) = (xs.length : Int) - 1 - ((i + 1 : Nat) : Int) := by rw [w64 (by omega)]; omega
    have hnew := hinv.step h1
    refine Sat.skip ?_
    simp only [thenK, hj]
    (repeat refine Sat.seq ?_)
    refine Sat.block ?_
    (repeat refine Sat.seq ?_)
    (refine Sat.region_rows [⟨0, 15, 1, 0⟩, ⟨0, 16, 4, 0⟩, ⟨0, 17, 1, 0⟩, ⟨0, 18, 8, 0⟩, ⟨0, 19, 1, 0⟩, ⟨0, 20, 8, 0⟩, ⟨48, 21, 786432, 0⟩, ⟨64, 22, 1048576, 1⟩, ⟨0, 23, 1, 0⟩, ⟨0, 24, 4, 0⟩, ⟨768, 25, 12582912, 0⟩, ⟨1024, 26, 16777216, 1⟩, ⟨2291, 27, 49152, 0⟩, ⟨6387, 0, 69206016, 2⟩, ⟨16383, 28, 196608, 0⟩, ⟨32767, 0, 167772160, 2⟩] [0, 1, 2, 3, 4, 5, 6, 8, 9, 10, 7, 11, 12] [(13, false), (14, false), (15, false)] [] (by kernel_rfl) (by kernel_rfl) (fun _ _ h => h) fun k hk => ?_; simp only [List.map_cons, List.map_nil, List.getD_cons_zero, List.getD_cons_succ, btseq_cons, btseq_free, btseq_nil]; simp -implicitDefEqProofs only [evr, id, reduceCtorEq, reduceIte, Nat.reduceMul, Nat.reduceAdd, Nat.reduceLT, Nat.reduceLeDiff, Nat.reduceEqDiff, Int.reduceLT, Int.reduceBEq, Int.reduceBNe, Nat.reduceBEq, str_0, evn])
    refine ⟨by omega, by omega, by omega, by omega, by omega, by omega, by omega, by omega, ?_⟩
    (refine hk _ ?_; clear hk k; try show Sat _ _ _ _ _)
    try simp only [thenK, blockK]
    refine Sat.region_k fun k hk => ?_
    simp -implicitDefEqProofs only [evr, id, reduceCtorEq, reduceIte, Nat.reduceMul, Nat.reduceAdd, Nat.reduceLT, Nat.reduceLeDiff, Nat.reduceEqDiff, Int.reduceLT, Int.reduceBEq, Int.reduceBNe, Nat.reduceBEq, str_0, e1, e2, evn]
    refine hk _ ?_
    simp only [thenK, blockK]
    refine ⟨(i + 1, _), hnew, by show _ - (i + 1) < _ - i; omega, ?_⟩
    have es := str_set2 (ys := ys) (n := xs.length) (i := i) (j := xs.length - 1 - i) (u := ys.getD (xs.length - 1 - i) []) (v := ys.getD i []) (by omega) (by omega)
    simp -implicitDefEqProofs only [evr, id, reduceCtorEq, reduceIte, Nat.reduceMul, Nat.reduceAdd, Nat.reduceLT, Nat.reduceLeDiff, Nat.reduceEqDiff, Int.reduceLT, Int.reduceBEq, Int.reduceBNe, Nat.reduceBEq, str_0, evl, evn]
    repeat' (first | exact es | rfl | (refine And.intro ?_ ?_))
  · obtain rfl := hinv.done (of_decide_eq_false h)
    refine Sat.exit ?_
    simp only [thenK, blockK, reduceIte]
    simp only [retM, retMK, Tryz.results80, evr, id, reduceCtorEq, reduceIte, Nat.reduceMul, Nat.reduceAdd, Nat.reduceLT, Nat.reduceLeDiff, Nat.reduceEqDiff, Int.reduceLT, Int.reduceBEq, Int.reduceBNe, Nat.reduceBEq, List.append_nil, Int.toNat_zero, Nat.sub_self, str_0]
    exact ⟨_, _, rfl, rfl⟩
end Tq
end Go.Proofs.YtgdbcpljdibliaaGreatDoor
