import Derived.Test.YtabgkfjfmjdfiaaGreatDoorNatR
import Derived.Test.YtabgkfjfmjdfiaaGreatDoorShelf
import Derived.Test.YtabgkfjfmjdfiaaGreatDoorGlbE
import Derived.Shelf.Strings.SlTrimAscii
import Derived.Lib.SlTrimSet
import Derived.Lib.AppendIntMem
import Derived.Test.YtabgkfjfmjdfiaaGreatDoorPk4
import Derived.Test.YtabgkfjfmjdfiaaGreatDoorRefL
import Derived.Test.YtabgkfjfmjdfiaaGreatDoorAddE
import Derived.Test.YtabgkfjfmjdfiaaGreatDoorRefH
import Derived.Test.YtabgkfjfmjdfiaaGreatDoorRefI
import Derived.Test.YtabgkfjfmjdfiaaGreatDoorRefJ
import Derived.Test.YtabgkfjfmjdfiaaGreatDoorNatE
import Derived.Test.YtabgkfjfmjdfiaaGreatDoorZChoose
import Derived.Test.YtabgkfjfmjdfiaaGreatDoorZPow
import Derived.Test.YtabgkfjfmjdfiaaGreatDoorCodesR
import Derived.Test.YtabgkfjfmjdfiaaGreatDoorDrwB

/- The library's texts that package natural calls: Itoa, Repeat, Join, Trim, Reverse, for the evaluator. -/
set_option linter.unusedSimpArgs false
set_option linter.unusedVariables false
namespace Go.Proofs.YtabgkfjfmjdfiaaGreatDoor
namespace Tq
open Go.RowKit Eng
def mkB (l : List UInt8) : ByteArray := ⟨l.toArray⟩
abbrev sB (l : List UInt8) : SV := .v (.string (mkB l))
theorem mkB_size (l : List UInt8) : (mkB l).size = l.length := by simp [mkB, ByteArray.size]
theorem mkB_inj {a b : ByteArray} (h : a.data.toList = b.data.toList) : a = b := WideShapes.bytes_inj h
theorem mkB_append (l m : List UInt8) : mkB l ++ mkB m = mkB (l ++ m) := mkB_inj (by simp [mkB, ByteArray.data_append])
def TxT (w : World) : Prop := Lib.TabIs Tryz.prog w "internal/strconv.uint64pow10" .u64 Lib.pow10Tab
theorem tx_low : LowFact (1 + 1) TxT := tab_low (g := 1) (by kernel_rfl) (by decide)
abbrev FrA : Frm := Frm.tab (1 + 1) TxT tx_low
theorem ofCallsT {P : Program} {f : FuncId} {fn : Func} {c : Code} {args : List SV} {post : SV → Prop} {N : Nat} {T : World → Prop} {hT : LowFact N T} (hf : P.funcs[f]? = some fn) (hb : fn.body = some c) (hname : (fn.name == "runtime.NumGoroutine") = false)
    (h : ∀ (R : Nat → Prop) (w : World), T w → (∀ s ∈ args, s.ok R w) → (∀ b, R b → b < w.heap.size) → Calls P f (args.map SV.den).toArray w fun e w' => ∃ r, e = .returned r.den ∧ post r ∧ r.ok (fun b => R b ∨ (w.heap.size ≤ b ∧ b < w'.heap.size)) w' ∧ Below w.heap.size w w') :
    Contract (Frm.tab N T hT) P f args post := by
  refine ⟨fun vs w => ?_, fun R w hinv hargs hR => ?_⟩
  · have hn : ¬ fn.name = "runtime.NumGoroutine" := by simpa using hname
    simp [callFunc, hf, hn, hb]
  · refine (h R w hinv.2 hargs fun b hb => (hR b hb).1).mono ?_
    rintro e w' ⟨r, he, hp, hok, hbel⟩
    exact ⟨r, he, hp, hok, ⟨hbel.os, hbel.tape, hbel.output, hbel.size, fun b hb _ => hbel.block b hb⟩, (Frm.tab N T hT).stab w w' w.heap.size hinv (fun b hm => (Frm.tab N T hT).lt w b hinv hm) fun b hb => hbel.block b hb⟩
theorem itoaC (n : Int) (h0 : -9223372036854775808 ≤ n) (h1 : n ≤ 9223372036854775807) : Contract FrA Tryz.prog 83 [.i .i64 n] (fun r => r = sB (Lib.itoa n)) := by
  refine ofCallsT Tryz.func83 rfl (by kernel_rfl) fun R w hT hs hR => ?_
  refine (Tryz.strconv_Itoa n h0 h1 w hT).mono ?_
  rintro e w' ⟨rfl, k, os, rfl⟩
  refine ⟨_, rfl, rfl, trivial, ?_⟩
  exact Lib.below_grow _ _ (Nat.le_refl _) _ _
theorem repeatC (F : Frm) (l : List UInt8) (c : Nat) (hc : c ≤ 1000) (hl : l.length ≤ 1000) : Contract F Tryz.prog 84 [sB l, .i .i64 c] (fun r => r = sB (Lib.repeatL l c)) := by
  refine ofCalls Tryz.func84 rfl (by kernel_rfl) fun R w hs hR => ?_
  have hm : l.length * c ≤ 1000 * 1000 := Nat.mul_le_mul hl hc
  refine (Tryz.strings_Repeat (mkB l) c w (by omega) (by rw [mkB_size]; omega)).mono ?_
  rintro e w' ⟨rfl, hb⟩
  exact ⟨_, rfl, rfl, trivial, hb⟩
theorem joinC (F : Frm) {a : Option Addr} {len cap : Nat} {rd : Nat → Nat → SV} (xs : List ByteArray) (sep : ByteArray) (hl : xs.length = len) (hrd : ∀ (j : Nat) x, xs[j]? = some x → rd j 0 = .v (.string x)) (h0 : 0 < len) (hN : len ≤ 140737488355328) (hlen : (Lib.join (xs.map (·.data.toList)) sep.data.toList).length ≤ 140737488355328) :
    Contract F Tryz.prog 86 [.sl a len cap 1 rd, .v (.string sep)] (fun r => r = .v (.string ⟨(Lib.join (xs.map (·.data.toList)) sep.data.toList).toArray⟩)) := by
  subst hl
  refine ofCalls Tryz.func86 rfl (by kernel_rfl) fun R w hs hR => ?_
  obtain ⟨h1, h2, h3⟩ := hs _ List.mem_cons_self
  rcases h3 with h3 | ⟨blk, off, rfl, hr, hc⟩
  · omega
  refine (Tryz.strings_Join blk off cap xs sep w (fun j x hx => ?_) (hR _ hr) hN h1 hlen).mono ?_
  · have hj : j < xs.length := (List.getElem?_eq_some_iff.1 hx).1
    have h9 := (hc j 0 hj (by decide)).1
    rw [hrd j x hx, Nat.mul_one, Nat.add_zero] at h9
    exact h9
  · rintro e w' ⟨rfl, hb⟩
    exact ⟨_, rfl, rfl, trivial, hb⟩
def digSet : List UInt8 := [48, 49, 50, 51, 52, 53, 54, 55, 56, 57]
theorem trimC (F : Frm) (l : List UInt8) (hl : l.length ≤ 140737488355328) : Contract F Tryz.prog 90 [sB l, sB digSet] (fun r => r = sB (Lib.trimS l digSet)) := by
  refine ofCalls Tryz.func90 rfl (by kernel_rfl) fun R w hs hR => ?_
  refine (Any.strings_Trim_laid Tryz.lays160 (by kernel_rfl) (mkB l) (mkB digSet) w (by rw [mkB_size]; omega) (by decide) (ascii_of_all (by decide))).mono ?_
  rintro e w' ⟨rfl, hb⟩
  exact ⟨_, rfl, rfl, trivial, hb⟩
def strRd (xs : List (List UInt8)) : Nat → Nat → SV := fun i _ => sB (xs.getD i [])
theorem getD_setS {xs : List (List UInt8)} (i j : Nat) (v : List UInt8) (h : i < xs.length) : (xs.set i v).getD j [] = if i = j then v else xs.getD j [] := by
  simp only [List.getD, List.getElem?_set]
  by_cases e : i = j
  · subst e; simp [h]
  · simp [e]
theorem str_set2 {ys : List (List UInt8)} {n i j : Nat} {u v : List UInt8} (hi : i < ys.length) (hj : j < ys.length) : rdEq n 1 (rdSet (rdSet (strRd ys) i 0 [sB u]) j 0 [sB v]) (strRd ((ys.set i u).set j v)) := by
  intro p q hp hq
  obtain rfl : q = 0 := by omega
  have e : strRd ((ys.set i u).set j v) p 0 = sB (if j = p then v else if i = p then u else ys.getD p []) := by
    unfold strRd
    rw [getD_setS _ _ _ (by rw [List.length_set]; exact hj), getD_setS _ _ _ hi]
  rw [e]
  unfold rdSet
  by_cases h1 : p = j
  · subst h1; simp
  · by_cases h2 : p = i
    · subst h2; simp [h1, Ne.symm h1]
    · simp [h1, h2, Ne.symm h1, Ne.symm h2, strRd]
theorem str_0 (xs : List (List UInt8)) (i : Nat) : strRd xs i 0 = sB (xs.getD i []) := rfl
structure RevInv (xs : List (List UInt8)) (i : Nat) (ys : List (List UInt8)) : Prop where
  len : ys.length = xs.length
  at_ : ∀ j, j < xs.length → ys.getD j [] = if j < i ∨ xs.length - 1 - j < i then xs.getD (xs.length - 1 - j) [] else xs.getD j []
theorem RevInv.step {xs ys : List (List UInt8)} {i : Nat} (h : RevInv xs i ys) (hi : i < xs.length - 1 - i) : RevInv xs (i + 1) ((ys.set i (ys.getD (xs.length - 1 - i) [])).set (xs.length - 1 - i) (ys.getD i [])) := by
  have hl := h.len
  refine ⟨by rw [List.length_set, List.length_set]; exact h.len, fun j hj => ?_⟩
  rw [getD_setS _ _ _ (by rw [List.length_set]; omega), getD_setS _ _ _ (by omega)]
  by_cases h1 : xs.length - 1 - i = j
  · rw [if_pos h1, h.at_ i (by omega), if_neg (by omega), if_pos (by omega)]
    congr 1
    omega
  · rw [if_neg h1]
    by_cases h2 : i = j
    · subst h2
      rw [if_pos rfl, h.at_ _ (by omega), if_neg (by omega), if_pos (by omega)]
    · rw [if_neg h2, h.at_ j hj]
      by_cases h3 : j < i ∨ xs.length - 1 - j < i
      · rw [if_pos h3, if_pos (by omega)]
      · rw [if_neg h3, if_neg (by omega)]
theorem RevInv.done {xs ys : List (List UInt8)} {i : Nat} (h : RevInv xs i ys) (hi : ¬ (i : Int) < (xs.length : Int) - 1 - i) : ys = xs.reverse := by
  have hl := h.len
  apply List.ext_getElem?
  intro j
  by_cases hj : j < xs.length
  · have := h.at_ j hj
    rw [List.getElem?_reverse hj]
    have e1 : ys[j]? = some (ys.getD j []) := by simp [List.getD, show j < ys.length by omega]
    have e2 : xs[xs.length - 1 - j]? = some (xs.getD (xs.length - 1 - j) []) := by simp [List.getD, show xs.length - 1 - j < xs.length by omega]
    rw [e1, e2, this]
    split
    · rfl
    · congr 2; omega
  · rw [List.getElem?_eq_none (by omega), List.getElem?_eq_none (by rw [List.length_reverse]; omega)]
set_option maxRecDepth 100000 in
theorem reverseC (F : Frm) (a : Option Addr) (cap : Nat) (xs : List (List UInt8)) (hl : xs.length ≤ 100000) : ContractM F Tryz.prog 85 [.os 0 a xs.length cap] (.row a 9 xs.length cap 1 (strRd xs)) (fun r o1 => r = tupL [] ∧ o1 = .row a 9 xs.length cap 1 (strRd xs.reverse)) := by
  refine contractM_of Tryz.func85 rfl (by kernel_rfl) (by rintro r o1 ⟨rfl, rfl⟩; cases a <;> rfl) ?_
  simp only [Tryz.ntmps85, argEnv]
  have e0 : IntKind.i64.wrap ((xs.length : Int) - 1) = (xs.length : Int) - 1 - ((0 : Nat) : Int) := by rw [w64 (by omega)]; omega
  (repeat refine Sat.seq ?_)
  refine Sat.region_k fun k hk => ?_
  simp -implicitDefEqProofs only [evr, id, reduceCtorEq, reduceIte, Nat.reduceMul, Nat.reduceAdd, Nat.reduceLT, Nat.reduceLeDiff, Nat.reduceEqDiff, Int.reduceLT, Int.reduceBEq, Int.reduceBNe, Nat.reduceBEq, str_0, e0, evn]
  (refine hk _ ?_; clear hk k; try show Sat _ _ _ _ _)
  refine Sat.block ?_
  (repeat refine Sat.seq ?_)
  refine Sat.loop (ι := Nat × List (List UInt8)) (fun x => ⟨28, [(2, .i .i64 x.1), (3, .i .i64 ((xs.length : Int) - 1 - (x.1 : Nat))), (0, .os 0 a xs.length cap)], [.row a 9 xs.length cap 1 (strRd x.2)]⟩) (fun x => RevInv xs x.1 x.2) (fun x => xs.length - x.1) (0, xs) ⟨rfl, fun j hj => by rw [if_neg (by omega)]⟩ (by simp -implicitDefEqProofs only [evr, id, reduceCtorEq, reduceIte, Nat.reduceMul, Nat.reduceAdd, Nat.reduceLT, Nat.reduceLeDiff, Nat.reduceEqDiff, Int.reduceLT, Int.reduceBEq, Int.reduceBNe, Nat.reduceBEq, str_0, evl, evn]; repeat' (first | rfl | (refine And.intro ?_ ?_))) ?_
  rintro ⟨i, ys⟩ hinv
  simp only at hinv ⊢
  have hlen := hinv.len
  (repeat refine Sat.seq ?_)
  (refine Sat.region_k fun k hk => ?_; simp -implicitDefEqProofs only [evr, id, reduceCtorEq, reduceIte, Nat.reduceMul, Nat.reduceAdd, Nat.reduceLT, Nat.reduceLeDiff, Nat.reduceEqDiff, Int.reduceLT, Int.reduceBEq, Int.reduceBNe, Nat.reduceBEq, str_0, evn]; refine hk _ ?_; clear hk k; try show Sat _ _ _ _ _)
  (repeat refine Sat.seq ?_)
  refine Sat.cond_b rfl (fun h => ?_) (fun h => ?_)
  · have h1 : i < xs.length - 1 - i := by have := of_decide_eq_true h; omega
    clear h
    have hj : (xs.length : Int) - 1 - (i : Nat) = ((xs.length - 1 - i : Nat) : Int) := by omega
    have e1 : IntKind.i64.wrap ((i : Int) + 1) = ((i + 1 : Nat) : Int) := by rw [w64 (by omega)]; omega
    have e2 : IntKind.i64.wrap (((xs.length - 1 - i : Nat) : Int) - 1) = (xs.length : Int) - 1 - ((i + 1 : Nat) : Int) := by rw [w64 (by omega)]; omega
    have hnew := hinv.step h1
    refine Sat.skip ?_
    simp only [thenK, hj]
    (repeat refine Sat.seq ?_)
    refine Sat.block ?_
    (repeat refine Sat.seq ?_)
    (refine Sat.region_rows [⟨0, 15, 1, 0⟩, ⟨0, 16, 4, 0⟩, ⟨0, 17, 1, 0⟩, ⟨0, 18, 8, 0⟩, ⟨0, 19, 1, 0⟩, ⟨0, 20, 8, 0⟩, ⟨48, 21, 786432, 0⟩, ⟨64, 22, 1048576, 1⟩, ⟨0, 23, 1, 0⟩, ⟨0, 24, 4, 0⟩, ⟨768, 25, 12582912, 0⟩, ⟨1024, 26, 16777216, 1⟩, ⟨2291, 27, 49152, 0⟩, ⟨6387, 0, 69206016, 2⟩, ⟨16383, 28, 196608, 0⟩, ⟨32767, 0, 167772160, 2⟩] [0, 1, 2, 3, 4, 5, 6, 8, 9, 10, 7, 11, 12] [(13, false), (14, false), (15, false)] [] (by kernel_rfl) (by kernel_rfl) (fun _ _ h => h) fun k hk => ?_; simp only [List.map_cons, List.map_nil, List.getD_cons_zero, List.getD_cons_succ, btseq_cons, btseq_free, btseq_nil]; simp -implicitDefEqProofs only [evr, id, reduceCtorEq, reduceIte, Nat.reduceMul, Nat.reduceAdd, Nat.reduceLT, Nat.reduceLeDiff, Nat.reduceEqDiff, Int.reduceLT, Int.reduceBEq, Int.reduceBNe, Nat.reduceBEq, str_0, evn])
    refine ⟨by omega, by omega, by omega, by omega, by omega, by omega, by omega, by omega, ?_⟩
    (refine hk _ ?_; clear hk k; try show Sat _ _ _ _ _)
    try simp only [thenK, blockK]
    refine Sat.region_k fun k hk => ?_
    simp -implicitDefEqProofs only [evr, id, reduceCtorEq, reduceIte, Nat.reduceMul, Nat.reduceAdd, Nat.reduceLT, Nat.reduceLeDiff, Nat.reduceEqDiff, Int.reduceLT, Int.reduceBEq, Int.reduceBNe, Nat.reduceBEq, str_0, e1, e2, evn]
    refine hk _ ?_
    simp only [thenK, blockK]
    refine ⟨(i + 1, _), hnew, by show _ - (i + 1) < _ - i; omega, ?_⟩
    have es := str_set2 (ys := ys) (n := xs.length) (i := i) (j := xs.length - 1 - i) (u := ys.getD (xs.length - 1 - i) []) (v := ys.getD i []) (by omega) (by omega)
    simp -implicitDefEqProofs only [evr, id, reduceCtorEq, reduceIte, Nat.reduceMul, Nat.reduceAdd, Nat.reduceLT, Nat.reduceLeDiff, Nat.reduceEqDiff, Int.reduceLT, Int.reduceBEq, Int.reduceBNe, Nat.reduceBEq, str_0, evl, evn]
    repeat' (first | exact es | rfl | (refine And.intro ?_ ?_))
  · obtain rfl := hinv.done (of_decide_eq_false h)
    refine Sat.exit ?_
    simp only [thenK, blockK, reduceIte]
    simp only [retM, retMK, Tryz.results85, evr, id, reduceCtorEq, reduceIte, Nat.reduceMul, Nat.reduceAdd, Nat.reduceLT, Nat.reduceLeDiff, Nat.reduceEqDiff, Int.reduceLT, Int.reduceBEq, Int.reduceBNe, Nat.reduceBEq, List.append_nil, Int.toNat_zero, Nat.sub_self, str_0]
    exact ⟨_, _, rfl, rfl⟩
end Tq
end Go.Proofs.YtabgkfjfmjdfiaaGreatDoor


/- natural.Text, by the evaluator. -/
namespace Go.Proofs.YtabgkfjfmjdfiaaGreatDoor
namespace Tq
open Eng Lmb Go.RowKit
theorem itoa_nat (n : Nat) : Lib.itoa (n : Int) = Lib.decDigits n := by unfold Lib.itoa; rw [if_neg (by omega)]; rfl
theorem cat_ok {x y : ByteArray} (h : x.size + y.size ≤ 1000000) : (((x.size + y.size : Nat) : Int) ≤ IntKind.i64.max) = True := by
  apply eq_true
  have : IntKind.i64.max = 9223372036854775807 := rfl
  omega
theorem str_app (xs : List (List UInt8)) (x : List UInt8) : rdEq (xs.length + 1) 1 (rdCat xs.length (strRd xs) (rdL [sB x] 1)) (strRd (xs ++ [x])) := by
  intro i j hi hj
  obtain rfl : j = 0 := by omega
  unfold rdCat strRd
  split
  · rename_i h
    simp [List.getD, List.getElem?_append_left h]
  · rename_i h
    have e : i = xs.length := by omega
    subst e
    simp [List.getD, rdL]
set_option maxHeartbeats 1000000 in
set_option maxRecDepth 100000 in
theorem textC {s : SV} {n : Nat} (hs : Nats s n) (hn : n < 2 ^ 7680) (h256 : (n : Int) < pw 256) : Contract FrA Tryz.prog 22 [s] (fun r => r = sB (Lib.decDigits n)) := by
  have hs1 := hs
  obtain ⟨a1, c1, z1, r1, x1, rfl, _⟩ := hs
  have hl := hs1.len
  have hl0 := hs1.len0
  refine contract_of Tryz.func22 rfl (by kernel_rfl) ?_
  simp only [Tryz.ntmps22, argEnv]
  (repeat refine Sat.seq ?_)
  (refine Sat.region_k fun k hk => ?_; simp -implicitDefEqProofs only [evr, id, reduceCtorEq, reduceIte, Nat.reduceMul, Nat.reduceAdd, Nat.reduceLT, Nat.reduceLeDiff, Nat.reduceEqDiff, Int.reduceLT, Int.reduceBEq, Int.reduceBNe, Nat.reduceBEq, str_0, evn]; refine hk _ ?_; clear hk k; try show Sat _ _ _ _ _)
  (repeat refine Sat.seq ?_)
  (refine Sat.region_k fun k hk => ?_; simp -implicitDefEqProofs only [evr, id, reduceCtorEq, reduceIte, Nat.reduceMul, Nat.reduceAdd, Nat.reduceLT, Nat.reduceLeDiff, Nat.reduceEqDiff, Int.reduceLT, Int.reduceBEq, Int.reduceBNe, Nat.reduceBEq, str_0, evn]; refine hk _ ?_; clear hk k; try show Sat _ _ _ _ _)
  refine Sat.cond_b rfl (fun h => ?_) (fun h => ?_)
  · rw [hl0] at h
    have h0 : n = 0 := of_decide_eq_true h
    (repeat refine Sat.seq ?_)
    (refine Sat.region_k fun k hk => ?_; simp -implicitDefEqProofs only [evr, id, reduceCtorEq, reduceIte, Nat.reduceMul, Nat.reduceAdd, Nat.reduceLT, Nat.reduceLeDiff, Nat.reduceEqDiff, Int.reduceLT, Int.reduceBEq, Int.reduceBNe, Nat.reduceBEq, str_0, evn]; refine hk _ ?_; clear hk k; try show Sat _ _ _ _ _)
    refine Sat.ret ?_
    simp only [Tryz.results22, evr, id, reduceCtorEq, reduceIte, Nat.reduceMul, Nat.reduceAdd, Nat.reduceLT, Nat.reduceLeDiff, Nat.reduceEqDiff, Int.reduceLT, Int.reduceBEq, Int.reduceBNe, Nat.reduceBEq, List.append_nil, Int.toNat_zero, Nat.sub_self, str_0]
    rw [h0, dec_small (by decide)]
    rfl
  have hn0 : 0 < n := by
    rw [hl0] at h
    have := of_decide_eq_false h
    omega
  clear h
  refine Sat.skip ?_
  simp only [thenK]
  (repeat refine Sat.seq ?_)
  (refine Sat.region_k fun k hk => ?_; simp -implicitDefEqProofs only [evr, id, reduceCtorEq, reduceIte, Nat.reduceMul, Nat.reduceAdd, Nat.reduceLT, Nat.reduceLeDiff, Nat.reduceEqDiff, Int.reduceLT, Int.reduceBEq, Int.reduceBNe, Nat.reduceBEq, str_0, evn]; refine hk _ ?_; clear hk k; try show Sat _ _ _ _ _)
  (repeat refine Sat.seq ?_)
  (refine Sat.region_k fun k hk => ?_; simp -implicitDefEqProofs only [evr, id, reduceCtorEq, reduceIte, Nat.reduceMul, Nat.reduceAdd, Nat.reduceLT, Nat.reduceLeDiff, Nat.reduceEqDiff, Int.reduceLT, Int.reduceBEq, Int.reduceBNe, Nat.reduceBEq, str_0, evn]; refine hk _ ?_; clear hk k; try show Sat _ _ _ _ _)
  (repeat refine Sat.seq ?_)
  refine Sat.block ?_
  refine Sat.adopt 3 9 1 (strRd []) rfl ?_
  refine Sat.loop (ι := Nat × SV × Option Addr × Nat × List (List UInt8)) (fun x => ⟨38, [(4, x.2.1), (3, .os 0 x.2.2.1 x.2.2.2.2.length x.2.2.2.1)], [.row x.2.2.1 9 x.2.2.2.2.length x.2.2.2.1 1 (strRd x.2.2.2.2)]⟩)
    (fun x => Nats x.2.1 x.1 ∧ (x.1 : Int) < pw 256 ∧ TextInv n x.1 x.2.2.2.2 ∧ x.2.2.2.2.length ≤ 7680) (fun x => x.1) (n, .sl a1 x1.length c1 z1 r1, none, 0, []) ⟨hs1, h256, TextInv.start hn0, Nat.zero_le _⟩ (by simp -implicitDefEqProofs only [evr, id, reduceCtorEq, reduceIte, Nat.reduceMul, Nat.reduceAdd, Nat.reduceLT, Nat.reduceLeDiff, Nat.reduceEqDiff, Int.reduceLT, Int.reduceBEq, Int.reduceBNe, Nat.reduceBEq, str_0, evl, evn]) ?_
  rintro ⟨r, sr, a, cap, parts⟩ ⟨hr, hr256, hinv, hpl⟩
  simp only at hr hr256 hinv hpl ⊢
  have hr1 := hr
  obtain ⟨a2, c2, z2, r2, x2, rfl, _⟩ := hr
  have hl2 := hr1.len
  (repeat refine Sat.seq ?_)
  (refine Sat.region_k fun k hk => ?_; simp -implicitDefEqProofs only [evr, id, reduceCtorEq, reduceIte, Nat.reduceMul, Nat.reduceAdd, Nat.reduceLT, Nat.reduceLeDiff, Nat.reduceEqDiff, Int.reduceLT, Int.reduceBEq, Int.reduceBNe, Nat.reduceBEq, str_0, evn]; refine hk _ ?_; clear hk k; try show Sat _ _ _ _ _)
  (repeat refine Sat.seq ?_)
  refine Sat.cond_b rfl (fun h => ?_) (fun h => ?_)
  · have hr0 : 0 < r := by
      have h9 := of_decide_eq_true h
      rw [hl2] at h9
      exact h9
    clear h
    have hstep := hinv.step hr0
    have hplt := hinv.len hr0 hn
    have hmod : r % 1000000000 < 10 ^ (8 + 1) := Nat.mod_lt _ (by decide)
    obtain ⟨hd9, _⟩ := pad_dec 8 _ hmod
    have e9 : IntKind.i64.wrap (9 - ((Lib.decDigits (r % 1000000000)).length : Int)) = ((9 - (Lib.decDigits (r % 1000000000)).length : Nat) : Int) := by rw [w64 (by omega)]; omega
    have itC := itoaC ((r % 1000000000 : Nat) : Int) (by omega) (by omega)
    rw [itoa_nat] at itC
    have rpC := repeatC FrA [48] (9 - (Lib.decDigits (r % 1000000000)).length) (by omega) (by decide)
    have rlen := Lib.repeatL_length [48] (9 - (Lib.decDigits (r % 1000000000)).length)
    have ct : ((((mkB (Lib.repeatL [48] (9 - (Lib.decDigits (r % 1000000000)).length))).size + (mkB (Lib.decDigits (r % 1000000000))).size : Nat) : Int) ≤ IntKind.i64.max) = True := cat_ok (by rw [mkB_size, mkB_size, rlen]; simp; omega)
    refine Sat.skip ?_
    simp only [thenK]
    (repeat refine Sat.seq ?_)
    refine Sat.block ?_
    (repeat refine Sat.seq ?_)
    (refine Sat.region_k fun k hk => ?_; simp -implicitDefEqProofs only [evr, id, reduceCtorEq, reduceIte, Nat.reduceMul, Nat.reduceAdd, Nat.reduceLT, Nat.reduceLeDiff, Nat.reduceEqDiff, Int.reduceLT, Int.reduceBEq, Int.reduceBNe, Nat.reduceBEq, str_0, evn]; refine hk _ ?_; clear hk k; try show Sat _ _ _ _ _)
    (repeat refine Sat.seq ?_)
    (refine Sat.region_k fun k hk => ?_; simp -implicitDefEqProofs only [evr, id, reduceCtorEq, reduceIte, Nat.reduceMul, Nat.reduceAdd, Nat.reduceLT, Nat.reduceLeDiff, Nat.reduceEqDiff, Int.reduceLT, Int.reduceBEq, Int.reduceBNe, Nat.reduceBEq, str_0, evn])
    refine wcall_slice (smallC FrA 1000000000 hr1 hr256 (by decide) (by decide)) rfl (by simp -implicitDefEqProofs only [evr, id, reduceCtorEq, reduceIte, Nat.reduceMul, Nat.reduceAdd, Nat.reduceLT, Nat.reduceLeDiff, Nat.reduceEqDiff, Int.reduceLT, Int.reduceBEq, Int.reduceBNe, Nat.reduceBEq, str_0, evn]; rfl) ?_
    rintro rr ⟨s3, rfl, hs3⟩
    have hs2 := hs3
    obtain ⟨a3, c3, z3, r3, x3, rfl, _⟩ := hs3
    have hl3 := hs2.len
    simp -implicitDefEqProofs only [evr, id, reduceCtorEq, reduceIte, Nat.reduceMul, Nat.reduceAdd, Nat.reduceLT, Nat.reduceLeDiff, Nat.reduceEqDiff, Int.reduceLT, Int.reduceBEq, Int.reduceBNe, Nat.reduceBEq, str_0, evn]
    (refine hk _ ?_; clear hk k; try show Sat _ _ _ _ _)
    (repeat refine Sat.seq ?_)
    (refine Sat.region_k fun k hk => ?_; simp -implicitDefEqProofs only [evr, id, reduceCtorEq, reduceIte, Nat.reduceMul, Nat.reduceAdd, Nat.reduceLT, Nat.reduceLeDiff, Nat.reduceEqDiff, Int.reduceLT, Int.reduceBEq, Int.reduceBNe, Nat.reduceBEq, str_0, evn])
    refine wcall_plain itC rfl (by rintro _ rfl; exact ok_plain rfl) ?_
    rintro rr rfl
    simp -implicitDefEqProofs only [evr, id, reduceCtorEq, reduceIte, Nat.reduceMul, Nat.reduceAdd, Nat.reduceLT, Nat.reduceLeDiff, Nat.reduceEqDiff, Int.reduceLT, Int.reduceBEq, Int.reduceBNe, Nat.reduceBEq, str_0, evn]
    (refine hk _ ?_; clear hk k; try show Sat _ _ _ _ _)
    (repeat refine Sat.seq ?_)
    (refine Sat.region_k fun k hk => ?_; simp -implicitDefEqProofs only [evr, id, reduceCtorEq, reduceIte, Nat.reduceMul, Nat.reduceAdd, Nat.reduceLT, Nat.reduceLeDiff, Nat.reduceEqDiff, Int.reduceLT, Int.reduceBEq, Int.reduceBNe, Nat.reduceBEq, str_0, evn]; refine hk _ ?_; clear hk k; try show Sat _ _ _ _ _)
    refine Sat.join (fun _ : Unit => ⟨38, [(6, sB (chunk r)), (4, .sl a3 x3.length c3 z3 r3), (3, .os 0 a parts.length cap)], [.row a 9 parts.length cap 1 (strRd parts)]⟩) (fun _ => True) ?_ (fun _ _ => ?_)
    · refine Sat.cond_b rfl (fun h => ?_) (fun h => ?_)
      · have h9 := of_decide_eq_true h
        rw [hl3] at h9
        have ec : chunk r = Lib.repeatL [48] (9 - (Lib.decDigits (r % 1000000000)).length) ++ Lib.decDigits (r % 1000000000) := by unfold chunk; rw [if_pos h9]
        refine Sat.region_k fun k hk => ?_
        simp -implicitDefEqProofs only [evr, id, reduceCtorEq, reduceIte, Nat.reduceMul, Nat.reduceAdd, Nat.reduceLT, Nat.reduceLeDiff, Nat.reduceEqDiff, Int.reduceLT, Int.reduceBEq, Int.reduceBNe, Nat.reduceBEq, str_0, mkB_size, e9, evn]
        refine wcall_plain rpC rfl (by rintro _ rfl; exact ok_plain rfl) ?_
        rintro rr rfl
        simp -implicitDefEqProofs only [evr, id, reduceCtorEq, reduceIte, Nat.reduceMul, Nat.reduceAdd, Nat.reduceLT, Nat.reduceLeDiff, Nat.reduceEqDiff, Int.reduceLT, Int.reduceBEq, Int.reduceBNe, Nat.reduceBEq, str_0, ct, evn]
        simp only [mkB_append]
        refine hk _ ?_
        simp only [thenK]
        refine ⟨(), trivial, ?_⟩
        rw [ec]
        simp -implicitDefEqProofs only [evr, id, reduceCtorEq, reduceIte, Nat.reduceMul, Nat.reduceAdd, Nat.reduceLT, Nat.reduceLeDiff, Nat.reduceEqDiff, Int.reduceLT, Int.reduceBEq, Int.reduceBNe, Nat.reduceBEq, str_0, evl, evn]
        repeat' (first | rfl | (refine And.intro ?_ ?_))
      · have h9 := of_decide_eq_false h
        rw [hl3] at h9
        have ec : chunk r = Lib.decDigits (r % 1000000000) := by unfold chunk; rw [if_neg h9]
        refine Sat.skip ?_
        simp only [thenK]
        refine ⟨(), trivial, ?_⟩
        rw [ec]
        simp -implicitDefEqProofs only [evr, id, reduceCtorEq, reduceIte, Nat.reduceMul, Nat.reduceAdd, Nat.reduceLT, Nat.reduceLeDiff, Nat.reduceEqDiff, Int.reduceLT, Int.reduceBEq, Int.reduceBNe, Nat.reduceBEq, str_0, evl, evn]
        repeat' (first | rfl | (refine And.intro ?_ ?_))
    · refine Sat.region_k fun k hk => ?_
      simp -implicitDefEqProofs only [evr, id, reduceCtorEq, reduceIte, Nat.reduceMul, Nat.reduceAdd, Nat.reduceLT, Nat.reduceLeDiff, Nat.reduceEqDiff, Int.reduceLT, Int.reduceBEq, Int.reduceBNe, Nat.reduceBEq, str_0, evn]
      intro blk
      refine ⟨⟨by unfold maxLen; omega, by omega⟩, fun a4 cap4 => ?_⟩
      refine hk _ ?_
      simp only [thenK, blockK]
      refine ⟨(r / 1000000000, _, a4, cap4, parts ++ [chunk r]), ⟨hs2, by omega, hstep, by simp; omega⟩, by show r / 1000000000 < r; omega, ?_⟩
      have ea := str_app parts (chunk r)
      simp only [List.length_append, List.length_cons, List.length_nil]
      simp -implicitDefEqProofs only [evr, id, reduceCtorEq, reduceIte, Nat.reduceMul, Nat.reduceAdd, Nat.reduceLT, Nat.reduceLeDiff, Nat.reduceEqDiff, Int.reduceLT, Int.reduceBEq, Int.reduceBNe, Nat.reduceBEq, str_0, evl, evn]
      repeat' (first | exact ea | rfl | (refine And.intro ?_ ?_))
  · have hr0 : r = 0 := by
      have h9 := of_decide_eq_false h
      rw [hl2] at h9
      omega
    obtain ⟨hfl, hp0⟩ := hinv.done hr0
    have hjn : Lib.join ((parts.reverse.map mkB).map (·.data.toList)) (⟨#[]⟩ : ByteArray).data.toList = Lib.decDigits n := by
      rw [List.map_map]
      have e : (parts.reverse.map ((fun x : ByteArray => x.data.toList) ∘ mkB)) = parts.reverse := by
        apply List.map_id''
        intro x
        rfl
      rw [e]
      exact (join_none _).trans hfl
    have hdl := dec_two 7680 n hn
    have jnC := joinC FrA (a := a) (len := parts.length) (cap := cap) (rd := strRd parts.reverse) (parts.reverse.map mkB) ⟨#[]⟩ (by simp) (fun j x hx => by
      rw [List.getElem?_map] at hx
      cases hj : parts.reverse[j]? with
      | none => rw [hj] at hx; cases hx
      | some y =>
        rw [hj] at hx
        cases hx
        unfold strRd
        simp [List.getD, hj]) hp0 (by omega) (by rw [hjn]; omega)
    rw [hjn] at jnC
    refine Sat.exit ?_
    simp only [thenK, blockK, reduceIte]
    (repeat refine Sat.seq ?_)
    (refine Sat.region_k fun k hk => ?_; simp -implicitDefEqProofs only [evr, id, reduceCtorEq, reduceIte, Nat.reduceMul, Nat.reduceAdd, Nat.reduceLT, Nat.reduceLeDiff, Nat.reduceEqDiff, Int.reduceLT, Int.reduceBEq, Int.reduceBNe, Nat.reduceBEq, str_0, evn])
    refine wcall_mut 0 (reverseC FrA a cap parts (by omega)) rfl rfl ?_
    rintro rr o1 ⟨rfl, rfl⟩
    simp -implicitDefEqProofs only [evr, id, reduceCtorEq, reduceIte, Nat.reduceMul, Nat.reduceAdd, Nat.reduceLT, Nat.reduceLeDiff, Nat.reduceEqDiff, Int.reduceLT, Int.reduceBEq, Int.reduceBNe, Nat.reduceBEq, str_0, evn]
    (refine hk _ ?_; clear hk k; try show Sat _ _ _ _ _)
    (repeat refine Sat.seq ?_)
    (refine Sat.region_k fun k hk => ?_; simp -implicitDefEqProofs only [evr, id, reduceCtorEq, reduceIte, Nat.reduceMul, Nat.reduceAdd, Nat.reduceLT, Nat.reduceLeDiff, Nat.reduceEqDiff, Int.reduceLT, Int.reduceBEq, Int.reduceBNe, Nat.reduceBEq, str_0, evn])
    refine wcall_plain jnC (by simp -implicitDefEqProofs only [evr, id, reduceCtorEq, reduceIte, Nat.reduceMul, Nat.reduceAdd, Nat.reduceLT, Nat.reduceLeDiff, Nat.reduceEqDiff, Int.reduceLT, Int.reduceBEq, Int.reduceBNe, Nat.reduceBEq, str_0, evn]; try rfl) (by rintro _ rfl; exact ok_plain rfl) ?_
    rintro rr rfl
    simp -implicitDefEqProofs only [evr, id, reduceCtorEq, reduceIte, Nat.reduceMul, Nat.reduceAdd, Nat.reduceLT, Nat.reduceLeDiff, Nat.reduceEqDiff, Int.reduceLT, Int.reduceBEq, Int.reduceBNe, Nat.reduceBEq, str_0, evn]
    (refine hk _ ?_; clear hk k; try show Sat _ _ _ _ _)
    refine Sat.ret ?_
    simp only [Tryz.results22, evr, id, reduceCtorEq, reduceIte, Nat.reduceMul, Nat.reduceAdd, Nat.reduceLT, Nat.reduceLeDiff, Nat.reduceEqDiff, Int.reduceLT, Int.reduceBEq, Int.reduceBNe, Nat.reduceBEq, List.append_nil, Int.toNat_zero, Nat.sub_self, str_0]
    try rfl
end Tq
end Go.Proofs.YtabgkfjfmjdfiaaGreatDoor


/- natural.Parse, by the evaluator. -/
namespace Go.Proofs.YtabgkfjfmjdfiaaGreatDoor
namespace Tq
open Eng Lmb Go.RowKit
theorem dig_in {c : UInt8} (h : isDig c) : digSet.contains c = true := by
  obtain ⟨h1, h2⟩ := h
  have e : c = UInt8.ofNat c.toNat := by simp
  rw [e]
  generalize c.toNat = m at h1 h2
  rcases (show m = 48 ∨ m = 49 ∨ m = 50 ∨ m = 51 ∨ m = 52 ∨ m = 53 ∨ m = 54 ∨ m = 55 ∨ m = 56 ∨ m = 57 by omega) with rfl | rfl | rfl | rfl | rfl | rfl | rfl | rfl | rfl | rfl <;> decide
theorem mkB_toList (l : List UInt8) : (mkB l).toList = l := by rw [ByteArray.toList_eq]; rfl
theorem emp_toList : (⟨#[]⟩ : ByteArray).toList = [] := by rw [ByteArray.toList_eq]
theorem byte_get (l : List UInt8) (i : Nat) (h : i < (mkB l).size) : (mkB l)[i]'h = l[i]'(by rw [mkB_size] at h; exact h) := by
  rw [ByteArray.getElem_eq_getElem_data]
  simp [mkB]
theorem byte_at (l : List UInt8) (i : Nat) (c : UInt8) (h : l[i]? = some c) : byteAt (mkB l) i = c.toNat := by
  obtain ⟨hi, e⟩ := List.getElem?_eq_some_iff.1 h
  unfold byteAt
  rw [getElem?_pos (mkB l) i (by rw [mkB_size]; exact hi), byte_get, e]
  rfl
end Tq
end Go.Proofs.YtabgkfjfmjdfiaaGreatDoor


/- The reference's text of a number, by the evaluator. -/
namespace Go.Proofs.YtabgkfjfmjdfiaaGreatDoor
namespace Tq
open Eng Lmb Go.RowKit
theorem bytes_dch (n : Nat) (h : n < 10) : bytesOf [48 + (n : Int)] = mkB [dch n] := by
  apply mkB_inj
  unfold bytesOf dch
  simp only [List.foldl_cons, List.foldl_nil, Nat.mod_eq_of_lt h]
  rw [show (48 + (n : Int)).toNat = 48 + n by omega]
  rfl
theorem decB_mk (n : Nat) : decB n = mkB (Lib.decDigits n) := by
  induction n using Nat.strongRecOn with
  | ind n ih =>
  by_cases h : n < 10
  · rw [decB_small h, dec_small h, bytes_dch n h]
  · rw [decB_big h, dec_big (by omega), ih (n / 10) (by omega), bytes_dch _ (by omega), mkB_append]
    congr 2
    unfold dch
    rw [Nat.mod_mod]
theorem decC (F : Frm) (n : Nat) (h : n < 9223372036854775808) : Contract F Tryz.prog 87 [.i .i64 n] (fun r => r = sB (Lib.decDigits n)) := by
  have := refDecimalC F n h
  rwa [decB_mk] at this
theorem mkB_ext (l : List UInt8) (i j : Nat) : (mkB l).extract i j = mkB ((l.drop i).take (j - i)) := by
  apply mkB_inj
  simp [mkB, ByteArray.data_extract, List.extract_eq_take_drop]
theorem limb0 {xs : List Int} {n : Nat} (d : Dig xs n) (h : xs.length ≤ 1) : xs.getD 0 0 = (n : Int) := by
  have hv := d.val
  cases xs with
  | nil => rw [val_nil] at hv; rw [← hv]; rfl
  | cons x t =>
    have : t = [] := by
      cases t with
      | nil => rfl
      | cons y t => simp at h
    subst this
    simpa [val_cons, val_nil] using hv
set_option maxHeartbeats 1000000 in
set_option maxRecDepth 100000 in
theorem refTextC (F : Frm) {s : SV} {N : Nat} (hs : Nats s N) (hN : N < 2 ^ 7680) (h256 : (N : Int) < pw 256) : Contract F Tryz.prog 23 [s] (fun r => r = sB (Lib.decDigits N)) := by
  have hs1 := hs
  obtain ⟨a0, c0, z0, r0, x0, rfl, _⟩ := hs
  refine contract_of Tryz.func23 rfl (by kernel_rfl) ?_
  simp only [Tryz.ntmps23, argEnv]
  (repeat refine Sat.seq ?_)
  (refine Sat.region_k fun k hk => ?_; simp -implicitDefEqProofs only [evr, id, reduceCtorEq, reduceIte, Nat.reduceMul, Nat.reduceAdd, Nat.reduceLT, Nat.reduceLeDiff, Nat.reduceEqDiff, Int.reduceLT, Int.reduceBEq, Int.reduceBNe, Nat.reduceBEq, mkB_toList, emp_toList, evn]; refine hk _ ?_; clear hk k; try show Sat _ _ _ _ _)
  (repeat refine Sat.seq ?_)
  (refine Sat.region_k fun k hk => ?_; simp -implicitDefEqProofs only [evr, id, reduceCtorEq, reduceIte, Nat.reduceMul, Nat.reduceAdd, Nat.reduceLT, Nat.reduceLeDiff, Nat.reduceEqDiff, Int.reduceLT, Int.reduceBEq, Int.reduceBNe, Nat.reduceBEq, mkB_toList, emp_toList, evn]; refine hk _ ?_; clear hk k; try show Sat _ _ _ _ _)
  (repeat refine Sat.seq ?_)
  refine Sat.block ?_
  refine Sat.loop (ι := Nat × Nat × SV) (fun x => ⟨73, [(0, x.2.2), (3, sB (padN (9 * x.1) N))], []⟩)
    (fun x => Nats x.2.2 x.2.1 ∧ RtI N x.1 x.2.1 ∧ x.1 ≤ 7680) (fun x => x.2.1) (0, N, .sl a0 x0.length c0 z0 r0) ⟨hs1, RtI.start N, Nat.zero_le _⟩ (by
      simp -implicitDefEqProofs only [evr, id, reduceCtorEq, reduceIte, Nat.reduceMul, Nat.reduceAdd, Nat.reduceLT, Nat.reduceLeDiff, Nat.reduceEqDiff, Int.reduceLT, Int.reduceBEq, Int.reduceBNe, Nat.reduceBEq, mkB_toList, emp_toList, evl, evn]
      repeat' (first | rfl | (refine And.intro ?_ ?_))) ?_
  rintro ⟨j, n, sn⟩ ⟨hn, hI, hjle⟩
  simp only at hn hI hjle ⊢
  have hnN : n ≤ N := by have := hI.small; have h9 : 0 < 2 ^ j := Nat.pow_pos (by decide); exact Nat.le_trans (Nat.le_mul_of_pos_right _ h9) this
  obtain ⟨xs, hi1, d1⟩ := hn.ints
  have hlim := hi1
  have l1 := (d1.len_le 256).2 (by omega)
  obtain ⟨a1, c1, z1, r1, rfl, hz1, hr1⟩ := hi1
  have hlen0 := hn.len0
  (repeat refine Sat.seq ?_)
  (refine Sat.region_k fun k hk => ?_; simp -implicitDefEqProofs only [evr, id, reduceCtorEq, reduceIte, Nat.reduceMul, Nat.reduceAdd, Nat.reduceLT, Nat.reduceLeDiff, Nat.reduceEqDiff, Int.reduceLT, Int.reduceBEq, Int.reduceBNe, Nat.reduceBEq, mkB_toList, emp_toList, evn]; refine hk _ ?_; clear hk k; try show Sat _ _ _ _ _)
  (repeat refine Sat.seq ?_)
  refine Sat.cond_b rfl (fun h => ?_) (fun h => ?_)
  · simp only [decide_eq_true_eq] at h
    have hge : 1073741824 ≤ n := by
      rcases Nat.lt_or_ge n 1073741824 with h9 | h9
      · have := (d1.len_le 1).2 (by rw [pw_succ, pw_zero]; omega)
        omega
      · exact h9
    have hsz1 : z1 = 1 := by
      rcases hz1 with hz | hz
      · omega
      · exact hz
    subst hsz1
    have hjlt := hI.len (by omega) hN
    have hstep := hI.step (by omega)
    have e0 : IntKind.i64.wrap ((xs.length : Int) - 1) = (xs.length : Int) - 1 := w64 (by omega)
    refine Sat.skip ?_
    simp only [thenK]
    (repeat refine Sat.seq ?_)
    refine Sat.block ?_
    (repeat refine Sat.seq ?_)
    (refine Sat.region_k fun k hk => ?_; simp -implicitDefEqProofs only [evr, id, reduceCtorEq, reduceIte, Nat.reduceMul, Nat.reduceAdd, Nat.reduceLT, Nat.reduceLeDiff, Nat.reduceEqDiff, Int.reduceLT, Int.reduceBEq, Int.reduceBNe, Nat.reduceBEq, mkB_toList, emp_toList, evn])
    refine ⟨by omega, fun a cap => ?_⟩
    (refine hk _ ?_; clear hk k; try show Sat _ _ _ _ _)
    (repeat refine Sat.seq ?_)
    (refine Sat.region_k fun k hk => ?_; simp -implicitDefEqProofs only [evr, id, reduceCtorEq, reduceIte, Nat.reduceMul, Nat.reduceAdd, Nat.reduceLT, Nat.reduceLeDiff, Nat.reduceEqDiff, Int.reduceLT, Int.reduceBEq, Int.reduceBNe, Nat.reduceBEq, mkB_toList, emp_toList, evn]; refine hk _ ?_; clear hk k; try show Sat _ _ _ _ _)
    (repeat refine Sat.seq ?_)
    refine Sat.region_k fun k hk => ?_
    simp -implicitDefEqProofs only [evr, id, reduceCtorEq, reduceIte, Nat.reduceMul, Nat.reduceAdd, Nat.reduceLT, Nat.reduceLeDiff, Nat.reduceEqDiff, Int.reduceLT, Int.reduceBEq, Int.reduceBNe, Nat.reduceBEq, mkB_toList, emp_toList, e0, evn]
    (refine hk _ ?_; clear hk k; try show Sat _ _ _ _ _)
    (repeat refine Sat.seq ?_)
    refine Sat.block ?_
    (repeat refine Sat.seq ?_)
    refine Sat.loop (ι := Nat × Int × List Int) (fun x => ⟨73, [(6, .i .i64 ((x.1 : Int) - 1)), (5, .i .i64 x.2.1), (4, .os 0 a xs.length cap), (0, .sl a1 xs.length c1 1 r1), (3, sB (padN (9 * j) N))], [.row a 3 xs.length cap 1 (fun p _ => .i .i64 (x.2.2.getD p 0))]⟩)
      (fun x => x.1 ≤ xs.length ∧ SmallInv xs 1000000000 x.1 x.2.2 x.2.1) (fun x => x.1) (xs.length, 0, List.replicate xs.length 0) ⟨Nat.le_refl _, SmallInv.start xs 1000000000 (by decide)⟩ (by
        simp -implicitDefEqProofs only [evr, id, reduceCtorEq, reduceIte, Nat.reduceMul, Nat.reduceAdd, Nat.reduceLT, Nat.reduceLeDiff, Nat.reduceEqDiff, Int.reduceLT, Int.reduceBEq, Int.reduceBNe, Nat.reduceBEq, mkB_toList, emp_toList, evl, evn]
        repeat' (first | exact rd_zero (fun p => rfl) | rfl | (refine And.intro ?_ ?_))) ?_
    rintro ⟨q, rest, qs⟩ ⟨hq, hinv⟩
    simp only at hq hinv ⊢
    have t1 := hinv.r0
    have t2 := hinv.r1
    have t3 := hinv.len
    (repeat refine Sat.seq ?_)
    (refine Sat.region_k fun k hk => ?_; simp -implicitDefEqProofs only [evr, id, reduceCtorEq, reduceIte, Nat.reduceMul, Nat.reduceAdd, Nat.reduceLT, Nat.reduceLeDiff, Nat.reduceEqDiff, Int.reduceLT, Int.reduceBEq, Int.reduceBNe, Nat.reduceBEq, mkB_toList, emp_toList, evn]; refine hk _ ?_; clear hk k; try show Sat _ _ _ _ _)
    (repeat refine Sat.seq ?_)
    refine Sat.cond_b rfl (fun h2 => ?_) (fun h2 => ?_)
    · simp only [decide_eq_true_eq] at h2
      obtain ⟨i, rfl⟩ : ∃ i, q = i + 1 := ⟨q - 1, by omega⟩
      have hj : i < xs.length := by omega
      have ej : (((i + 1 : Nat) : Int) - 1) = (i : Int) := by omega
      have ej2 : IntKind.i64.wrap ((i : Int) - 1) = (i : Int) - 1 := w64 (by omega)
      have g1 := hr1 i hj
      have bx := limbs_getD d1.limbs i
      have hnext := hinv.step d1.limbs hj
      have w1 : IntKind.i64.wrap (rest * 1073741824) = rest * 1073741824 := w64 (by omega)
      have w2 : IntKind.i64.wrap (rest * 1073741824 + xs.getD i 0) = rest * 1073741824 + xs.getD i 0 := by rw [w64 (by omega)]
      have tq : IntKind.i64.wrap ((rest * 1073741824 + xs.getD i 0).tdiv 1000000000) = (rest * 1073741824 + xs.getD i 0) / 1000000000 := by
        rw [Int.tdiv_eq_ediv_of_nonneg (by omega), w64 (by omega)]
      have tm : (rest * 1073741824 + xs.getD i 0).tmod 1000000000 = (rest * 1073741824 + xs.getD i 0) % 1000000000 := Int.tmod_eq_emod_of_nonneg (by omega)
      refine Sat.skip ?_
      simp only [thenK, ej]
      (repeat refine Sat.seq ?_)
      refine Sat.block ?_
      (repeat refine Sat.seq ?_)
      refine Sat.region_k fun k hk => ?_
      simp -implicitDefEqProofs only [evr, id, reduceCtorEq, reduceIte, Nat.reduceMul, Nat.reduceAdd, Nat.reduceLT, Nat.reduceLeDiff, Nat.reduceEqDiff, Int.reduceLT, Int.reduceBEq, Int.reduceBNe, Nat.reduceBEq, mkB_toList, emp_toList, evn]
      refine ⟨by omega, ?_⟩
      rw [g1]
      simp -implicitDefEqProofs only [evr, id, reduceCtorEq, reduceIte, Nat.reduceMul, Nat.reduceAdd, Nat.reduceLT, Nat.reduceLeDiff, Nat.reduceEqDiff, Int.reduceLT, Int.reduceBEq, Int.reduceBNe, Nat.reduceBEq, mkB_toList, emp_toList, w1, w2, evn]
      (refine hk _ ?_; clear hk k; try show Sat _ _ _ _ _)
      (repeat refine Sat.seq ?_)
      refine Sat.region_k fun k hk => ?_
      simp -implicitDefEqProofs only [evr, id, reduceCtorEq, reduceIte, Nat.reduceMul, Nat.reduceAdd, Nat.reduceLT, Nat.reduceLeDiff, Nat.reduceEqDiff, Int.reduceLT, Int.reduceBEq, Int.reduceBNe, Nat.reduceBEq, mkB_toList, emp_toList, tq, evn]
      refine ⟨by decide, by omega, by omega, ?_⟩
      (refine hk _ ?_; clear hk k; try show Sat _ _ _ _ _)
      refine Sat.region_k fun k hk => ?_
      simp -implicitDefEqProofs only [evr, id, reduceCtorEq, reduceIte, Nat.reduceMul, Nat.reduceAdd, Nat.reduceLT, Nat.reduceLeDiff, Nat.reduceEqDiff, Int.reduceLT, Int.reduceBEq, Int.reduceBNe, Nat.reduceBEq, mkB_toList, emp_toList, tm, evn]
      refine ⟨by decide, ?_⟩
      refine hk _ ?_
      clear hk k
      simp only [thenK, blockK]
      (repeat refine Sat.seq ?_)
      refine Sat.region_k fun k hk => ?_
      simp -implicitDefEqProofs only [evr, id, reduceCtorEq, reduceIte, Nat.reduceMul, Nat.reduceAdd, Nat.reduceLT, Nat.reduceLeDiff, Nat.reduceEqDiff, Int.reduceLT, Int.reduceBEq, Int.reduceBNe, Nat.reduceBEq, mkB_toList, emp_toList, ej2, evn]
      refine hk _ ?_
      simp only [thenK, blockK]
      refine ⟨(i, (rest * 1073741824 + xs.getD i 0) % 1000000000, qs.set i ((rest * 1073741824 + xs.getD i 0) / 1000000000)), ⟨by show i ≤ xs.length; omega, hnext⟩, by show i < i + 1; omega, ?_⟩
      have es := rd_set (qs := qs) (n := xs.length) (ix := i) (x := (rest * 1073741824 + xs.getD i 0) / 1000000000) rfl (by omega)
      simp -implicitDefEqProofs only [evr, id, reduceCtorEq, reduceIte, Nat.reduceMul, Nat.reduceAdd, Nat.reduceLT, Nat.reduceLeDiff, Nat.reduceEqDiff, Int.reduceLT, Int.reduceBEq, Int.reduceBNe, Nat.reduceBEq, mkB_toList, emp_toList, evl, evn]
      repeat' (first | exact es | rfl | (refine And.intro ?_ ?_))
    · simp only [decide_eq_false_iff_not] at h2
      obtain rfl : q = 0 := by omega
      obtain ⟨hd, hrest⟩ := hinv.done (n := n) (c := 1000000000) d1.val rfl
      have hv : (val qs).toNat = n / 1000000000 := by
        have h8 := hd.val
        rw [trim_val] at h8
        omega
      refine Sat.exit ?_
      simp only [thenK, blockK, reduceIte]
      (repeat refine Sat.seq ?_)
      (refine Sat.region_k fun k hk => ?_; simp -implicitDefEqProofs only [evr, id, reduceCtorEq, reduceIte, Nat.reduceMul, Nat.reduceAdd, Nat.reduceLT, Nat.reduceLeDiff, Nat.reduceEqDiff, Int.reduceLT, Int.reduceBEq, Int.reduceBNe, Nat.reduceBEq, mkB_toList, emp_toList, evn])
      refine wcall_slice (refTrimC F (s := .sl a qs.length cap 1 (fun p _ => .i .i64 (qs.getD p 0))) ⟨a, cap, 1, _, rfl, .inr rfl, fun p _ => rfl⟩ hinv.limbs) (by simp -implicitDefEqProofs only [evr, id, reduceCtorEq, reduceIte, Nat.reduceMul, Nat.reduceAdd, Nat.reduceLT, Nat.reduceLeDiff, Nat.reduceEqDiff, Int.reduceLT, Int.reduceBEq, Int.reduceBNe, Nat.reduceBEq, mkB_toList, emp_toList, evn]; try rfl) (by simp -implicitDefEqProofs only [evr, id, reduceCtorEq, reduceIte, Nat.reduceMul, Nat.reduceAdd, Nat.reduceLT, Nat.reduceLeDiff, Nat.reduceEqDiff, Int.reduceLT, Int.reduceBEq, Int.reduceBNe, Nat.reduceBEq, mkB_toList, emp_toList, t3, evn]; try rfl) ?_
      intro y hy
      rw [hv] at hy
      have hs8 := hy
      obtain ⟨a8, c8, z8, r8, x8, rfl, _⟩ := hy
      simp -implicitDefEqProofs only [evr, id, reduceCtorEq, reduceIte, Nat.reduceMul, Nat.reduceAdd, Nat.reduceLT, Nat.reduceLeDiff, Nat.reduceEqDiff, Int.reduceLT, Int.reduceBEq, Int.reduceBNe, Nat.reduceBEq, mkB_toList, emp_toList, evn]
      (refine hk _ ?_; clear hk k; try show Sat _ _ _ _ _)
      subst hrest
      have hmod : n % 1000000000 < 10 ^ (8 + 1) := Nat.mod_lt _ (by decide)
      obtain ⟨hd9, hpad⟩ := pad_dec 8 _ hmod
      have hdp := dec_pos (n % 1000000000)
      (repeat refine Sat.seq ?_)
      (refine Sat.region_k fun k hk => ?_; simp -implicitDefEqProofs only [evr, id, reduceCtorEq, reduceIte, Nat.reduceMul, Nat.reduceAdd, Nat.reduceLT, Nat.reduceLeDiff, Nat.reduceEqDiff, Int.reduceLT, Int.reduceBEq, Int.reduceBNe, Nat.reduceBEq, mkB_toList, emp_toList, evn])
      refine wcall_plain (decC F (n % 1000000000) (by omega)) rfl (by rintro _ rfl; exact ok_plain rfl) ?_
      rintro r rfl
      simp -implicitDefEqProofs only [evr, id, reduceCtorEq, reduceIte, Nat.reduceMul, Nat.reduceAdd, Nat.reduceLT, Nat.reduceLeDiff, Nat.reduceEqDiff, Int.reduceLT, Int.reduceBEq, Int.reduceBNe, Nat.reduceBEq, mkB_toList, emp_toList, evn]
      (refine hk _ ?_; clear hk k; try show Sat _ _ _ _ _)
      (repeat refine Sat.seq ?_)
      refine Sat.block ?_
      refine Sat.loop (ι := Nat) (fun m => ⟨73, [(8, sB (Lib.repeatL [48] m ++ Lib.decDigits (n % 1000000000))), (0, .sl a8 x8.length c8 z8 r8), (3, sB (padN (9 * j) N))], []⟩)
        (fun m => m + (Lib.decDigits (n % 1000000000)).length ≤ 9) (fun m => 9 - m) 0 (by show 0 + _ ≤ 9; omega) (by
          simp -implicitDefEqProofs only [evr, id, reduceCtorEq, reduceIte, Nat.reduceMul, Nat.reduceAdd, Nat.reduceLT, Nat.reduceLeDiff, Nat.reduceEqDiff, Int.reduceLT, Int.reduceBEq, Int.reduceBNe, Nat.reduceBEq, mkB_toList, emp_toList, evl, evn]
          repeat' (first | rfl | (refine And.intro ?_ ?_))) ?_
      intro m hm
      have hm : m + (Lib.decDigits (n % 1000000000)).length ≤ 9 := hm
      have hml : (mkB (Lib.repeatL [48] m ++ Lib.decDigits (n % 1000000000))).size = m + (Lib.decDigits (n % 1000000000)).length := by rw [mkB_size, List.length_append, rep_len]
      (repeat refine Sat.seq ?_)
      refine Sat.region_k fun k hk => ?_
      simp -implicitDefEqProofs only [evr, id, reduceCtorEq, reduceIte, Nat.reduceMul, Nat.reduceAdd, Nat.reduceLT, Nat.reduceLeDiff, Nat.reduceEqDiff, Int.reduceLT, Int.reduceBEq, Int.reduceBNe, Nat.reduceBEq, mkB_toList, emp_toList, hml, evn]
      (refine hk _ ?_; clear hk k; try show Sat _ _ _ _ _)
      (repeat refine Sat.seq ?_)
      refine Sat.cond_b rfl (fun h3 => ?_) (fun h3 => ?_)
      · have h3 := of_decide_eq_true h3
        have ct : (((((⟨#[48]⟩ : ByteArray)).size + (mkB (Lib.repeatL [48] m ++ Lib.decDigits (n % 1000000000))).size : Nat) : Int) ≤ IntKind.i64.max) = True := cat_ok (by rw [hml]; show 1 + _ ≤ _; omega)
        have ce : (⟨#[48]⟩ : ByteArray) ++ mkB (Lib.repeatL [48] m ++ Lib.decDigits (n % 1000000000)) = mkB (Lib.repeatL [48] (m + 1) ++ Lib.decDigits (n % 1000000000)) := mkB_append [48] _
        refine Sat.skip ?_
        simp only [thenK]
        (repeat refine Sat.seq ?_)
        refine Sat.block ?_
        refine Sat.region_k fun k hk => ?_
        simp -implicitDefEqProofs only [evr, id, reduceCtorEq, reduceIte, Nat.reduceMul, Nat.reduceAdd, Nat.reduceLT, Nat.reduceLeDiff, Nat.reduceEqDiff, Int.reduceLT, Int.reduceBEq, Int.reduceBNe, Nat.reduceBEq, mkB_toList, emp_toList, ct, ce, evn]
        refine hk _ ?_
        simp only [thenK, blockK]
        refine ⟨m + 1, by show m + 1 + _ ≤ 9; omega, by show 9 - (m + 1) < 9 - m; omega, ?_⟩
        simp -implicitDefEqProofs only [evr, id, reduceCtorEq, reduceIte, Nat.reduceMul, Nat.reduceAdd, Nat.reduceLT, Nat.reduceLeDiff, Nat.reduceEqDiff, Int.reduceLT, Int.reduceBEq, Int.reduceBNe, Nat.reduceBEq, mkB_toList, emp_toList, evl, evn]
        repeat' (first | rfl | (refine And.intro ?_ ?_))
      · have h3 := of_decide_eq_false h3
        obtain rfl : m = 9 - (Lib.decDigits (n % 1000000000)).length := by omega
        rw [hpad]
        have pl := padN_len (9 * j) N
        have ct : ((((mkB (padN (8 + 1) (n % 1000000000))).size + (mkB (padN (9 * j) N)).size : Nat) : Int) ≤ IntKind.i64.max) = True := cat_ok (by rw [mkB_size, mkB_size, padN_len, padN_len]; omega)
        have ce : mkB (padN (8 + 1) (n % 1000000000)) ++ mkB (padN (9 * j) N) = mkB (padN (9 * (j + 1)) N) := by rw [mkB_append]; congr 1; exact hI.cat
        refine Sat.exit ?_
        simp only [thenK, blockK, reduceIte]
        refine Sat.region_k fun k hk => ?_
        simp -implicitDefEqProofs only [evr, id, reduceCtorEq, reduceIte, Nat.reduceMul, Nat.reduceAdd, Nat.reduceLT, Nat.reduceLeDiff, Nat.reduceEqDiff, Int.reduceLT, Int.reduceBEq, Int.reduceBNe, Nat.reduceBEq, mkB_toList, emp_toList, ct, ce, evn]
        refine hk _ ?_
        simp only [thenK, blockK]
        refine ⟨(j + 1, n / 1000000000, _), ⟨hs8, hstep, by show j + 1 ≤ 7680; omega⟩, by show n / 1000000000 < n; omega, ?_⟩
        simp -implicitDefEqProofs only [evr, id, reduceCtorEq, reduceIte, Nat.reduceMul, Nat.reduceAdd, Nat.reduceLT, Nat.reduceLeDiff, Nat.reduceEqDiff, Int.reduceLT, Int.reduceBEq, Int.reduceBNe, Nat.reduceBEq, mkB_toList, emp_toList, evl, evn]
        repeat' (first | rfl | (refine And.intro ?_ ?_))
  · simp only [decide_eq_false_iff_not] at h
    have hle1 : xs.length ≤ 1 := by omega
    have hx := limb0 d1 hle1
    have hlt : n < 1073741824 := by
      have := (d1.len_le 1).1 hle1
      rw [pw_succ, pw_zero] at this
      omega
    obtain ⟨m0, hm0, hm1, hm2⟩ := hI.done
    refine Sat.exit ?_
    simp only [thenK, blockK, reduceIte]
    (repeat refine Sat.seq ?_)
    (refine Sat.region_k fun k hk => ?_; simp -implicitDefEqProofs only [evr, id, reduceCtorEq, reduceIte, Nat.reduceMul, Nat.reduceAdd, Nat.reduceLT, Nat.reduceLeDiff, Nat.reduceEqDiff, Int.reduceLT, Int.reduceBEq, Int.reduceBNe, Nat.reduceBEq, mkB_toList, emp_toList, evn])
    refine wcall_plain (refLimbC F hlim 0) rfl (by rintro _ rfl; exact ok_plain rfl) ?_
    rintro r rfl
    simp -implicitDefEqProofs only [evr, id, reduceCtorEq, reduceIte, Nat.reduceMul, Nat.reduceAdd, Nat.reduceLT, Nat.reduceLeDiff, Nat.reduceEqDiff, Int.reduceLT, Int.reduceBEq, Int.reduceBNe, Nat.reduceBEq, mkB_toList, emp_toList, hx, evn]
    refine wcall_plain (decC F n (by omega)) rfl (by rintro _ rfl; exact ok_plain rfl) ?_
    rintro r rfl
    simp -implicitDefEqProofs only [evr, id, reduceCtorEq, reduceIte, Nat.reduceMul, Nat.reduceAdd, Nat.reduceLT, Nat.reduceLeDiff, Nat.reduceEqDiff, Int.reduceLT, Int.reduceBEq, Int.reduceBNe, Nat.reduceBEq, mkB_toList, emp_toList, evn]
    (refine hk _ ?_; clear hk k; try show Sat _ _ _ _ _)
    have hdl := dec_two 30 n (by omega)
    have pl := padN_len (9 * j) N
    have hNl := dec_two 7680 N hN
    (repeat refine Sat.seq ?_)
    refine Sat.region_at ⟨73, [(58, .b (decide (n = 0 ∧ j ≠ 0))), (9, sB (Lib.decDigits n)), (3, sB (padN (9 * j) N))], []⟩ (fun k hk => ?_) ?_
    · simp -implicitDefEqProofs only [evr, id, reduceCtorEq, reduceIte, Nat.reduceMul, Nat.reduceAdd, Nat.reduceLT, Nat.reduceLeDiff, Nat.reduceEqDiff, Int.reduceLT, Int.reduceBEq, Int.reduceBNe, Nat.reduceBEq, mkB_toList, emp_toList, hlen0, evn]
      refine ⟨fun h9 => ?_, fun h9 => ?_⟩
      · have h0 := h9
        have e : (!padN (9 * j) N == []) = decide (n = 0 ∧ j ≠ 0) := by
          show (padN (9 * j) N != []) = _
          apply Bool.eq_iff_iff.2
          rw [bne_iff_ne, decide_eq_true_eq]
          constructor
          · intro h8
            refine ⟨h0, fun h7 => h8 ?_⟩
            rw [h7]
            rfl
          · rintro ⟨_, h8⟩ h7
            have := congrArg List.length h7
            rw [padN_len] at this
            simp at this
            omega
        refine hk _ ?_
        rw [e]
        simp -implicitDefEqProofs only [evr, id, reduceCtorEq, reduceIte, Nat.reduceMul, Nat.reduceAdd, Nat.reduceLT, Nat.reduceLeDiff, Nat.reduceEqDiff, Int.reduceLT, Int.reduceBEq, Int.reduceBNe, Nat.reduceBEq, mkB_toList, emp_toList, evl, evn]
        repeat' (first | rfl | (refine And.intro ?_ ?_))
      · have e : decide (n = 0 ∧ j ≠ 0) = false := decide_eq_false (fun h8 => h9 h8.1)
        refine hk _ ?_
        rw [e]
        simp only [h9]
        simp -implicitDefEqProofs only [evr, id, reduceCtorEq, reduceIte, Nat.reduceMul, Nat.reduceAdd, Nat.reduceLT, Nat.reduceLeDiff, Nat.reduceEqDiff, Int.reduceLT, Int.reduceBEq, Int.reduceBNe, Nat.reduceBEq, mkB_toList, emp_toList, evl, evn]
        repeat' (first | rfl | (refine And.intro ?_ ?_))
    simp only [thenK]
    refine Sat.join (fun _ : Unit => ⟨73, [(9, sB (if n = 0 ∧ j ≠ 0 then [] else Lib.decDigits n)), (3, sB (padN (9 * j) N))], []⟩) (fun _ => True) ?_ (fun _ _ => ?_)
    · refine Sat.cond_b rfl (fun h9 => ?_) (fun h9 => ?_)
      · rw [if_pos (of_decide_eq_true h9)]
        refine Sat.region_k fun k hk => ?_
        simp -implicitDefEqProofs only [evr, id, reduceCtorEq, reduceIte, Nat.reduceMul, Nat.reduceAdd, Nat.reduceLT, Nat.reduceLeDiff, Nat.reduceEqDiff, Int.reduceLT, Int.reduceBEq, Int.reduceBNe, Nat.reduceBEq, mkB_toList, emp_toList, evn]
        refine hk _ ?_
        simp only [thenK]
        refine ⟨(), trivial, ?_⟩
        simp -implicitDefEqProofs only [evr, id, reduceCtorEq, reduceIte, Nat.reduceMul, Nat.reduceAdd, Nat.reduceLT, Nat.reduceLeDiff, Nat.reduceEqDiff, Int.reduceLT, Int.reduceBEq, Int.reduceBNe, Nat.reduceBEq, mkB_toList, emp_toList, evl, evn]
        repeat' (first | rfl | (refine And.intro ?_ ?_))
      · rw [if_neg (of_decide_eq_false h9)]
        refine Sat.skip ?_
        simp only [thenK]
        refine ⟨(), trivial, ?_⟩
        simp -implicitDefEqProofs only [evr, id, reduceCtorEq, reduceIte, Nat.reduceMul, Nat.reduceAdd, Nat.reduceLT, Nat.reduceLeDiff, Nat.reduceEqDiff, Int.reduceLT, Int.reduceBEq, Int.reduceBNe, Nat.reduceBEq, mkB_toList, emp_toList, evl, evn]
        repeat' (first | rfl | (refine And.intro ?_ ?_))
    have ct : ((((mkB (if n = 0 ∧ j ≠ 0 then [] else Lib.decDigits n)).size + (mkB (padN (9 * j) N)).size : Nat) : Int) ≤ IntKind.i64.max) = True := cat_ok (by
      rw [mkB_size, mkB_size, pl]
      split
      · simp; omega
      · omega)
    have ce : mkB (if n = 0 ∧ j ≠ 0 then [] else Lib.decDigits n) ++ mkB (padN (9 * j) N) = mkB (Lib.repeatL [48] m0 ++ Lib.decDigits N) := by rw [mkB_append, hm0]
    (repeat refine Sat.seq ?_)
    refine Sat.region_k fun k hk => ?_
    simp -implicitDefEqProofs only [evr, id, reduceCtorEq, reduceIte, Nat.reduceMul, Nat.reduceAdd, Nat.reduceLT, Nat.reduceLeDiff, Nat.reduceEqDiff, Int.reduceLT, Int.reduceBEq, Int.reduceBNe, Nat.reduceBEq, mkB_toList, emp_toList, ct, ce, evn]
    (refine hk _ ?_; clear hk k; try show Sat _ _ _ _ _)
    (repeat refine Sat.seq ?_)
    refine Sat.block ?_
    refine Sat.loop (ι := Nat) (fun m => ⟨73, [(3, sB (Lib.repeatL [48] m ++ Lib.decDigits N))], []⟩) (fun m => (N = 0 → m = 0) ∧ m ≤ m0) (fun m => m) m0 ⟨hm1, Nat.le_refl _⟩ (by
      simp -implicitDefEqProofs only [evr, id, reduceCtorEq, reduceIte, Nat.reduceMul, Nat.reduceAdd, Nat.reduceLT, Nat.reduceLeDiff, Nat.reduceEqDiff, Int.reduceLT, Int.reduceBEq, Int.reduceBNe, Nat.reduceBEq, mkB_toList, emp_toList, evl, evn]
      repeat' (first | rfl | (refine And.intro ?_ ?_))) ?_
    rintro m ⟨hmz, hmm⟩
    have hml : (mkB (Lib.repeatL [48] m ++ Lib.decDigits N)).size = m + (Lib.decDigits N).length := by rw [mkB_size, List.length_append, rep_len]
    have hdp := dec_pos N
    (repeat refine Sat.seq ?_)
    refine Sat.region_at ⟨73, [(69, .b (decide (0 < m))), (3, sB (Lib.repeatL [48] m ++ Lib.decDigits N))], []⟩ (fun k hk => ?_) ?_
    · simp -implicitDefEqProofs only [evr, id, reduceCtorEq, reduceIte, Nat.reduceMul, Nat.reduceAdd, Nat.reduceLT, Nat.reduceLeDiff, Nat.reduceEqDiff, Int.reduceLT, Int.reduceBEq, Int.reduceBNe, Nat.reduceBEq, mkB_toList, emp_toList, hml, evn]
      refine ⟨fun h9 => ?_, fun h9 => ?_⟩
      · refine ⟨⟨by decide, by omega⟩, ?_⟩
        have eb : (byteAt (mkB (Lib.repeatL [48] m ++ Lib.decDigits N)) 0 == 48) = decide (0 < m) := by
          cases m with
          | succ m =>
            rw [rep_zero_cons, byte_at _ 0 48 rfl]
            rfl
          | zero =>
            have hN0 : 0 < N := by
              rcases Nat.eq_zero_or_pos N with h8 | h8
              · subst h8
                rw [dec_small (by decide)] at h9
                simp at h9
              · exact h8
            obtain ⟨c, hc⟩ : ∃ c, (Lib.decDigits N)[0]? = some c := ⟨_, List.getElem?_eq_getElem (by omega)⟩
            have hne := dec_head hN0
            rw [hc] at hne
            rw [show Lib.repeatL [48] 0 ++ Lib.decDigits N = Lib.decDigits N from rfl, byte_at _ 0 c hc]
            apply Bool.eq_iff_iff.2
            rw [beq_iff_eq, decide_eq_true_eq]
            constructor
            · intro h8
              exfalso
              apply hne
              have e : c = UInt8.ofNat c.toNat := by simp
              rw [e, show c.toNat = 48 by omega]
              rfl
            · intro h8; omega
        refine hk _ ?_
        rw [eb]
        simp -implicitDefEqProofs only [evr, id, reduceCtorEq, reduceIte, Nat.reduceMul, Nat.reduceAdd, Nat.reduceLT, Nat.reduceLeDiff, Nat.reduceEqDiff, Int.reduceLT, Int.reduceBEq, Int.reduceBNe, Nat.reduceBEq, mkB_toList, emp_toList, evl, evn]
        repeat' (first | rfl | (refine And.intro ?_ ?_))
      · have e : decide (0 < m) = false := decide_eq_false (by omega)
        refine hk _ ?_
        rw [e, decide_eq_false h9]
        simp -implicitDefEqProofs only [evr, id, reduceCtorEq, reduceIte, Nat.reduceMul, Nat.reduceAdd, Nat.reduceLT, Nat.reduceLeDiff, Nat.reduceEqDiff, Int.reduceLT, Int.reduceBEq, Int.reduceBNe, Nat.reduceBEq, mkB_toList, emp_toList, evl, evn]
        repeat' (first | rfl | (refine And.intro ?_ ?_))
    simp only [thenK]
    refine Sat.cond_b rfl (fun h9 => ?_) (fun h9 => ?_)
    · have h9 := of_decide_eq_true h9
      obtain ⟨m, rfl⟩ : ∃ q, m = q + 1 := ⟨m - 1, by omega⟩
      have hx9 : (mkB (Lib.repeatL [48] (m + 1) ++ Lib.decDigits N)).extract 1 (m + 1 + (Lib.decDigits N).length) = mkB (Lib.repeatL [48] m ++ Lib.decDigits N) := by
        rw [mkB_ext, rep_zero_cons, List.cons_append, List.drop_succ_cons, List.drop_zero, List.take_of_length_le (by rw [List.length_append, rep_len]; omega)]
      refine Sat.skip ?_
      simp only [thenK]
      (repeat refine Sat.seq ?_)
      refine Sat.block ?_
      refine Sat.region_k fun k hk => ?_
      simp -implicitDefEqProofs only [evr, id, reduceCtorEq, reduceIte, Nat.reduceMul, Nat.reduceAdd, Nat.reduceLT, Nat.reduceLeDiff, Nat.reduceEqDiff, Int.reduceLT, Int.reduceBEq, Int.reduceBNe, Nat.reduceBEq, mkB_toList, emp_toList, hml, evn]
      refine ⟨by omega, ?_⟩
      rw [show Int.toNat 1 = 1 from rfl, hx9]
      refine hk _ ?_
      simp only [thenK, blockK]
      refine ⟨m, ⟨fun h8 => by have := hmz h8; omega, by omega⟩, by show m < m + 1; omega, ?_⟩
      simp -implicitDefEqProofs only [evr, id, reduceCtorEq, reduceIte, Nat.reduceMul, Nat.reduceAdd, Nat.reduceLT, Nat.reduceLeDiff, Nat.reduceEqDiff, Int.reduceLT, Int.reduceBEq, Int.reduceBNe, Nat.reduceBEq, mkB_toList, emp_toList, evl, evn]
      repeat' (first | rfl | (refine And.intro ?_ ?_))
    · have h9 := of_decide_eq_false h9
      obtain rfl : m = 0 := by omega
      refine Sat.exit ?_
      simp only [thenK, blockK, reduceIte]
      (repeat refine Sat.seq ?_)
      (refine Sat.region_k fun k hk => ?_; simp -implicitDefEqProofs only [evr, id, reduceCtorEq, reduceIte, Nat.reduceMul, Nat.reduceAdd, Nat.reduceLT, Nat.reduceLeDiff, Nat.reduceEqDiff, Int.reduceLT, Int.reduceBEq, Int.reduceBNe, Nat.reduceBEq, mkB_toList, emp_toList, evn]; refine hk _ ?_; clear hk k; try show Sat _ _ _ _ _)
      refine Sat.ret ?_
      simp only [Tryz.results23, evr, id, reduceCtorEq, reduceIte, Nat.reduceMul, Nat.reduceAdd, Nat.reduceLT, Nat.reduceLeDiff, Nat.reduceEqDiff, Int.reduceLT, Int.reduceBEq, Int.reduceBNe, Nat.reduceBEq, List.append_nil, Int.toNat_zero, Nat.sub_self, mkB_toList, emp_toList]
      rfl
end Tq
end Go.Proofs.YtabgkfjfmjdfiaaGreatDoor


/- Naturals of any kind: Valid of any list, what is too long, the reference's Add, Sub, Mul, DivMod, Gcd, Int: what each gives. -/
namespace Go.Proofs.YtabgkfjfmjdfiaaGreatDoor
open Eng Lmb Go.RowKit
def numRes (e n : Nat) (r : SV) : Prop := ∃ s, r = tupL [s, .i .i64 (e : Nat)] ∧ Nats s n
def limE (n : Nat) : Nat := if (n : Int) < pw 256 then 0 else 5
def limV (n : Nat) : Nat := if (n : Int) < pw 256 then n else 0
theorem limE_ok {n : Nat} (h : (n : Int) < pw 256) : limE n = 0 := if_pos h
theorem limE_big {n : Nat} (h : ¬ (n : Int) < pw 256) : limE n = 5 := if_neg h
theorem limV_ok {n : Nat} (h : (n : Int) < pw 256) : limV n = n := if_pos h
theorem limV_big {n : Nat} (h : ¬ (n : Int) < pw 256) : limV n = 0 := if_neg h
theorem Contract.to {F : Frm} {P : Program} {f : FuncId} {args : List SV} {p q : SV → Prop} (h : Contract F P f args p) (hq : ∀ r, p r → q r) : Contract F P f args q := h.mono hq
set_option maxRecDepth 100000 in
theorem refLimitedC (F : Frm) {s : SV} {n : Nat} (hs : Nats s n) : Contract F Tryz.prog 69 [s] (numRes (limE n) (limV n)) := by
  have hs1 := hs
  obtain ⟨xs, hi1, d1⟩ := hs.ints
  have l1 := d1.len_le 256
  obtain ⟨a1, c1, z1, r1, rfl, hz1, hr1⟩ := hi1
  refine contract_of Tryz.func69 rfl (by kernel_rfl) ?_
  simp only [Tryz.ntmps69, argEnv]
  (repeat refine Sat.seq ?_)
  (refine Sat.region_k fun k hk => ?_; simp -implicitDefEqProofs only [evr, id, reduceCtorEq, reduceIte, Nat.reduceMul, Nat.reduceAdd, Nat.reduceLT, Nat.reduceLeDiff, Nat.reduceEqDiff, Int.reduceLT, Int.reduceBEq, Int.reduceBNe, Nat.reduceBEq, frS, evn]; refine hk _ ?_; clear hk k; try show Sat _ _ _ _ _)
  (repeat refine Sat.seq ?_)
  (refine Sat.region_k fun k hk => ?_; simp -implicitDefEqProofs only [evr, id, reduceCtorEq, reduceIte, Nat.reduceMul, Nat.reduceAdd, Nat.reduceLT, Nat.reduceLeDiff, Nat.reduceEqDiff, Int.reduceLT, Int.reduceBEq, Int.reduceBNe, Nat.reduceBEq, frS, evn]; refine hk _ ?_; clear hk k; try show Sat _ _ _ _ _)
  refine Sat.cond_b rfl (fun h => ?_) (fun h => ?_)
  · have h9 := of_decide_eq_true h
    have hb : ¬ (n : Int) < pw 256 := fun h8 => by have := l1.2 h8; omega
    (repeat refine Sat.seq ?_)
    (refine Sat.region_k fun k hk => ?_; simp -implicitDefEqProofs only [evr, id, reduceCtorEq, reduceIte, Nat.reduceMul, Nat.reduceAdd, Nat.reduceLT, Nat.reduceLeDiff, Nat.reduceEqDiff, Int.reduceLT, Int.reduceBEq, Int.reduceBNe, Nat.reduceBEq, frS, evn]; refine hk _ ?_; clear hk k; try show Sat _ _ _ _ _)
    refine Sat.ret ?_
    simp only [Tryz.results69, evr, id, reduceCtorEq, reduceIte, Nat.reduceMul, Nat.reduceAdd, Nat.reduceLT, Nat.reduceLeDiff, Nat.reduceEqDiff, Int.reduceLT, Int.reduceBEq, Int.reduceBNe, Nat.reduceBEq, List.append_nil, Int.toNat_zero, Nat.sub_self, frS]
    rw [limE_big hb, limV_big hb]
    exact ⟨_, rfl, Nats.nil⟩
  · have h9 := of_decide_eq_false h
    have hb : (n : Int) < pw 256 := l1.1 (by omega)
    refine Sat.skip ?_
    simp only [thenK]
    (repeat refine Sat.seq ?_)
    (refine Sat.region_k fun k hk => ?_; simp -implicitDefEqProofs only [evr, id, reduceCtorEq, reduceIte, Nat.reduceMul, Nat.reduceAdd, Nat.reduceLT, Nat.reduceLeDiff, Nat.reduceEqDiff, Int.reduceLT, Int.reduceBEq, Int.reduceBNe, Nat.reduceBEq, frS, evn]; refine hk _ ?_; clear hk k; try show Sat _ _ _ _ _)
    refine Sat.ret ?_
    simp only [Tryz.results69, evr, id, reduceCtorEq, reduceIte, Nat.reduceMul, Nat.reduceAdd, Nat.reduceLT, Nat.reduceLeDiff, Nat.reduceEqDiff, Int.reduceLT, Int.reduceBEq, Int.reduceBNe, Nat.reduceBEq, List.append_nil, Int.toNat_zero, Nat.sub_self, frS]
    rw [limE_ok hb, limV_ok hb]
    exact ⟨_, rfl, hs1⟩
section
variable (F : Frm) {sa sb : SV} {m n : Nat}
theorem refAdd2C (ha : Nats sa m) (hb : Nats sb n) (b1 : (m : Int) < pw 512) (b2 : (n : Int) < pw 512) : Contract F Tryz.prog 9 [sa, sb] (numRes (limE (m + n)) (limV (m + n))) := by
  have ha1 := ha
  have hb1 := hb
  obtain ⟨a1, c1, z1, r1, x1, rfl, _⟩ := ha1
  obtain ⟨a2, c2, z2, r2, x2, rfl, _⟩ := hb1
  refine contract_of Tryz.func9 rfl (by kernel_rfl) ?_
  simp only [Tryz.ntmps9, argEnv]
  (repeat refine Sat.seq ?_)
  (refine Sat.region_k fun k hk => ?_; simp -implicitDefEqProofs only [evr, id, reduceCtorEq, reduceIte, Nat.reduceMul, Nat.reduceAdd, Nat.reduceLT, Nat.reduceLeDiff, Nat.reduceEqDiff, Int.reduceLT, Int.reduceBEq, Int.reduceBNe, Nat.reduceBEq, frS, evn]; refine hk _ ?_; clear hk k; try show Sat _ _ _ _ _)
  (repeat refine Sat.seq ?_)
  (refine Sat.region_k fun k hk => ?_; simp -implicitDefEqProofs only [evr, id, reduceCtorEq, reduceIte, Nat.reduceMul, Nat.reduceAdd, Nat.reduceLT, Nat.reduceLeDiff, Nat.reduceEqDiff, Int.reduceLT, Int.reduceBEq, Int.reduceBNe, Nat.reduceBEq, frS, evn])
  refine wcall_slice (refPlusC F ha hb b1 b2) rfl rfl ?_
  intro y hy
  have hs5 := hy
  obtain ⟨a5, c5, z5, r5, x5, rfl, _⟩ := hy
  simp -implicitDefEqProofs only [evr, id, reduceCtorEq, reduceIte, Nat.reduceMul, Nat.reduceAdd, Nat.reduceLT, Nat.reduceLeDiff, Nat.reduceEqDiff, Int.reduceLT, Int.reduceBEq, Int.reduceBNe, Nat.reduceBEq, frS, evn]
  refine wcall_slice (refLimitedC F hs5) rfl rfl ?_
  rintro y ⟨s6, rfl, hs6⟩
  have hs7 := hs6
  obtain ⟨a6, c6, z6, r6, x6, rfl, _⟩ := hs6
  simp -implicitDefEqProofs only [evr, id, reduceCtorEq, reduceIte, Nat.reduceMul, Nat.reduceAdd, Nat.reduceLT, Nat.reduceLeDiff, Nat.reduceEqDiff, Int.reduceLT, Int.reduceBEq, Int.reduceBNe, Nat.reduceBEq, frS, evn]
  (refine hk _ ?_; clear hk k; try show Sat _ _ _ _ _)
  refine Sat.ret ?_
  simp only [Tryz.results9, evr, id, reduceCtorEq, reduceIte, Nat.reduceMul, Nat.reduceAdd, Nat.reduceLT, Nat.reduceLeDiff, Nat.reduceEqDiff, Int.reduceLT, Int.reduceBEq, Int.reduceBNe, Nat.reduceBEq, List.append_nil, Int.toNat_zero, Nat.sub_self, frS]
  exact ⟨_, rfl, hs7⟩
theorem refMul2C (ha : Nats sa m) (hb : Nats sb n) (b1 : (m : Int) < pw 512) (b2 : (n : Int) < pw 512) : Contract F Tryz.prog 14 [sa, sb] (numRes (limE (m * n)) (limV (m * n))) := by
  have ha1 := ha
  have hb1 := hb
  obtain ⟨a1, c1, z1, r1, x1, rfl, _⟩ := ha1
  obtain ⟨a2, c2, z2, r2, x2, rfl, _⟩ := hb1
  refine contract_of Tryz.func14 rfl (by kernel_rfl) ?_
  simp only [Tryz.ntmps14, argEnv]
  (repeat refine Sat.seq ?_)
  (refine Sat.region_k fun k hk => ?_; simp -implicitDefEqProofs only [evr, id, reduceCtorEq, reduceIte, Nat.reduceMul, Nat.reduceAdd, Nat.reduceLT, Nat.reduceLeDiff, Nat.reduceEqDiff, Int.reduceLT, Int.reduceBEq, Int.reduceBNe, Nat.reduceBEq, frS, evn]; refine hk _ ?_; clear hk k; try show Sat _ _ _ _ _)
  (repeat refine Sat.seq ?_)
  (refine Sat.region_k fun k hk => ?_; simp -implicitDefEqProofs only [evr, id, reduceCtorEq, reduceIte, Nat.reduceMul, Nat.reduceAdd, Nat.reduceLT, Nat.reduceLeDiff, Nat.reduceEqDiff, Int.reduceLT, Int.reduceBEq, Int.reduceBNe, Nat.reduceBEq, frS, evn])
  refine wcall_slice (refTimesC F ha hb b1 b2) rfl rfl ?_
  intro y hy
  have hs5 := hy
  obtain ⟨a5, c5, z5, r5, x5, rfl, _⟩ := hy
  simp -implicitDefEqProofs only [evr, id, reduceCtorEq, reduceIte, Nat.reduceMul, Nat.reduceAdd, Nat.reduceLT, Nat.reduceLeDiff, Nat.reduceEqDiff, Int.reduceLT, Int.reduceBEq, Int.reduceBNe, Nat.reduceBEq, frS, evn]
  refine wcall_slice (refLimitedC F hs5) rfl rfl ?_
  rintro y ⟨s6, rfl, hs6⟩
  have hs7 := hs6
  obtain ⟨a6, c6, z6, r6, x6, rfl, _⟩ := hs6
  simp -implicitDefEqProofs only [evr, id, reduceCtorEq, reduceIte, Nat.reduceMul, Nat.reduceAdd, Nat.reduceLT, Nat.reduceLeDiff, Nat.reduceEqDiff, Int.reduceLT, Int.reduceBEq, Int.reduceBNe, Nat.reduceBEq, frS, evn]
  (refine hk _ ?_; clear hk k; try show Sat _ _ _ _ _)
  refine Sat.ret ?_
  simp only [Tryz.results14, evr, id, reduceCtorEq, reduceIte, Nat.reduceMul, Nat.reduceAdd, Nat.reduceLT, Nat.reduceLeDiff, Nat.reduceEqDiff, Int.reduceLT, Int.reduceBEq, Int.reduceBNe, Nat.reduceBEq, List.append_nil, Int.toNat_zero, Nat.sub_self, frS]
  exact ⟨_, rfl, hs7⟩
theorem refSub2C (ha : Nats sa m) (hb : Nats sb n) (b1 : (m : Int) < pw 512) : Contract F Tryz.prog 12 [sa, sb] (numRes (if m < n then 15 else 0) (m - n)) := by
  have ha1 := ha
  have hb1 := hb
  obtain ⟨a1, c1, z1, r1, x1, rfl, _⟩ := ha1
  obtain ⟨a2, c2, z2, r2, x2, rfl, _⟩ := hb1
  refine contract_of Tryz.func12 rfl (by kernel_rfl) ?_
  simp only [Tryz.ntmps12, argEnv]
  (repeat refine Sat.seq ?_)
  (refine Sat.region_k fun k hk => ?_; simp -implicitDefEqProofs only [evr, id, reduceCtorEq, reduceIte, Nat.reduceMul, Nat.reduceAdd, Nat.reduceLT, Nat.reduceLeDiff, Nat.reduceEqDiff, Int.reduceLT, Int.reduceBEq, Int.reduceBNe, Nat.reduceBEq, frS, evn]; refine hk _ ?_; clear hk k; try show Sat _ _ _ _ _)
  (repeat refine Sat.seq ?_)
  (refine Sat.region_k fun k hk => ?_; simp -implicitDefEqProofs only [evr, id, reduceCtorEq, reduceIte, Nat.reduceMul, Nat.reduceAdd, Nat.reduceLT, Nat.reduceLeDiff, Nat.reduceEqDiff, Int.reduceLT, Int.reduceBEq, Int.reduceBNe, Nat.reduceBEq, frS, evn])
  refine wcall_plain (refCompareC F ha hb b1) rfl (by rintro _ rfl; exact ok_plain rfl) ?_
  rintro _ rfl
  simp -implicitDefEqProofs only [evr, id, reduceCtorEq, reduceIte, Nat.reduceMul, Nat.reduceAdd, Nat.reduceLT, Nat.reduceLeDiff, Nat.reduceEqDiff, Int.reduceLT, Int.reduceBEq, Int.reduceBNe, Nat.reduceBEq, frS, evn]
  (refine hk _ ?_; clear hk k; try show Sat _ _ _ _ _)
  refine Sat.cond_b rfl (fun h => ?_) (fun h => ?_)
  · have h9 := of_decide_eq_true h
    have hlt : m < n := by
      rcases Nat.lt_trichotomy m n with h8 | h8 | h8
      · exact h8
      · rw [cmpI_eq (by omega)] at h9; omega
      · rw [cmpI_gt (by omega)] at h9; omega
    (repeat refine Sat.seq ?_)
    (refine Sat.region_k fun k hk => ?_; simp -implicitDefEqProofs only [evr, id, reduceCtorEq, reduceIte, Nat.reduceMul, Nat.reduceAdd, Nat.reduceLT, Nat.reduceLeDiff, Nat.reduceEqDiff, Int.reduceLT, Int.reduceBEq, Int.reduceBNe, Nat.reduceBEq, frS, evn]; refine hk _ ?_; clear hk k; try show Sat _ _ _ _ _)
    refine Sat.ret ?_
    simp only [Tryz.results12, evr, id, reduceCtorEq, reduceIte, Nat.reduceMul, Nat.reduceAdd, Nat.reduceLT, Nat.reduceLeDiff, Nat.reduceEqDiff, Int.reduceLT, Int.reduceBEq, Int.reduceBNe, Nat.reduceBEq, List.append_nil, Int.toNat_zero, Nat.sub_self, frS]
    rw [if_pos hlt, show m - n = 0 by omega]
    exact ⟨_, rfl, Nats.nil⟩
  · have h9 := of_decide_eq_false h
    have hle : n ≤ m := by
      rcases Nat.lt_or_ge m n with h8 | h8
      · rw [cmpI_lt (by omega)] at h9; omega
      · exact h8
    refine Sat.skip ?_
    simp only [thenK]
    (repeat refine Sat.seq ?_)
    (refine Sat.region_k fun k hk => ?_; simp -implicitDefEqProofs only [evr, id, reduceCtorEq, reduceIte, Nat.reduceMul, Nat.reduceAdd, Nat.reduceLT, Nat.reduceLeDiff, Nat.reduceEqDiff, Int.reduceLT, Int.reduceBEq, Int.reduceBNe, Nat.reduceBEq, frS, evn])
    refine wcall_slice (refLessC F ha hb b1 hle) rfl rfl ?_
    intro y hy
    have hs5 := hy
    obtain ⟨a5, c5, z5, r5, x5, rfl, _⟩ := hy
    simp -implicitDefEqProofs only [evr, id, reduceCtorEq, reduceIte, Nat.reduceMul, Nat.reduceAdd, Nat.reduceLT, Nat.reduceLeDiff, Nat.reduceEqDiff, Int.reduceLT, Int.reduceBEq, Int.reduceBNe, Nat.reduceBEq, frS, evn]
    (refine hk _ ?_; clear hk k; try show Sat _ _ _ _ _)
    refine Sat.ret ?_
    simp only [Tryz.results12, evr, id, reduceCtorEq, reduceIte, Nat.reduceMul, Nat.reduceAdd, Nat.reduceLT, Nat.reduceLeDiff, Nat.reduceEqDiff, Int.reduceLT, Int.reduceBEq, Int.reduceBNe, Nat.reduceBEq, List.append_nil, Int.toNat_zero, Nat.sub_self, frS]
    rw [if_neg (by omega)]
    exact ⟨_, rfl, hs5⟩
theorem natSubNegC (ha : Nats sa m) (hb : Nats sb n) (hlt : m < n) : Contract F Tryz.prog 11 [sa, sb] (numRes 15 0) := by
  have ha1 := ha
  have hb1 := hb
  obtain ⟨a1, c1, z1, r1, x1, rfl, _⟩ := ha1
  obtain ⟨a2, c2, z2, r2, x2, rfl, _⟩ := hb1
  refine contract_of Tryz.func11 rfl (by kernel_rfl) ?_
  simp only [Tryz.ntmps11, argEnv]
  (repeat refine Sat.seq ?_)
  (refine Sat.region_k fun k hk => ?_; simp -implicitDefEqProofs only [evr, id, reduceCtorEq, reduceIte, Nat.reduceMul, Nat.reduceAdd, Nat.reduceLT, Nat.reduceLeDiff, Nat.reduceEqDiff, Int.reduceLT, Int.reduceBEq, Int.reduceBNe, Nat.reduceBEq, frS, evn]; refine hk _ ?_; clear hk k; try show Sat _ _ _ _ _)
  (repeat refine Sat.seq ?_)
  have cm := natCmpC F ha hb
  rw [cmpI_lt (by omega)] at cm
  (refine Sat.region_k fun k hk => ?_; simp -implicitDefEqProofs only [evr, id, reduceCtorEq, reduceIte, Nat.reduceMul, Nat.reduceAdd, Nat.reduceLT, Nat.reduceLeDiff, Nat.reduceEqDiff, Int.reduceLT, Int.reduceBEq, Int.reduceBNe, Nat.reduceBEq, frS, evn])
  refine wcall_plain cm rfl (by rintro _ rfl; exact ok_plain rfl) ?_
  rintro _ rfl
  simp -implicitDefEqProofs only [evr, id, reduceCtorEq, reduceIte, Nat.reduceMul, Nat.reduceAdd, Nat.reduceLT, Nat.reduceLeDiff, Nat.reduceEqDiff, Int.reduceLT, Int.reduceBEq, Int.reduceBNe, Nat.reduceBEq, frS, evn]
  (refine hk _ ?_; clear hk k; try show Sat _ _ _ _ _)
  refine Sat.cond_b rfl (fun h => ?_) (fun h => absurd h (by decide))
  (repeat refine Sat.seq ?_)
  (refine Sat.region_k fun k hk => ?_; simp -implicitDefEqProofs only [evr, id, reduceCtorEq, reduceIte, Nat.reduceMul, Nat.reduceAdd, Nat.reduceLT, Nat.reduceLeDiff, Nat.reduceEqDiff, Int.reduceLT, Int.reduceBEq, Int.reduceBNe, Nat.reduceBEq, frS, evn]; refine hk _ ?_; clear hk k; try show Sat _ _ _ _ _)
  refine Sat.ret ?_
  simp only [Tryz.results11, evr, id, reduceCtorEq, reduceIte, Nat.reduceMul, Nat.reduceAdd, Nat.reduceLT, Nat.reduceLeDiff, Nat.reduceEqDiff, Int.reduceLT, Int.reduceBEq, Int.reduceBNe, Nat.reduceBEq, List.append_nil, Int.toNat_zero, Nat.sub_self, frS]
  exact ⟨_, rfl, Nats.nil⟩
theorem natSub2C (ha : Nats sa m) (hb : Nats sb n) (hm : (m : Int) < pw 256) : Contract F Tryz.prog 11 [sa, sb] (numRes (if m < n then 15 else 0) (m - n)) := by
  by_cases h : m < n
  · rw [if_pos h, show m - n = 0 by omega]
    exact natSubNegC F ha hb h
  · rw [if_neg h]
    exact subC F ha hb hm (by omega)
theorem natAdd2C (ha : Nats sa m) (hb : Nats sb n) (h : ((m + n : Nat) : Int) < pw 256) : Contract F Tryz.prog 8 [sa, sb] (numRes (limE (m + n)) (limV (m + n))) := by
  rw [limE_ok h, limV_ok h]
  exact addC F ha hb h
theorem natMul2C (ha : Nats sa m) (hb : Nats sb n) (hm : (m : Int) < pw 256) (hn : (n : Int) < pw 256) (h : ((m * n : Nat) : Int) < pw 256) : Contract F Tryz.prog 13 [sa, sb] (numRes (limE (m * n)) (limV (m * n))) := by
  rw [limE_ok h, limV_ok h]
  exact mulC F ha hb hm hn h
def divRes (m n : Nat) (r : SV) : Prop := ∃ s t, r = tupL [s, t, .i .i64 ((if n = 0 then 14 else 0 : Nat) : Nat)] ∧ Nats s (m / n) ∧ Nats t (if n = 0 then 0 else m % n)
theorem refDivMod2C (ha : Nats sa m) (hb : Nats sb n) (b1 : (m : Int) < pw 256) (b2 : (n : Int) < pw 256) : Contract F Tryz.prog 16 [sa, sb] (divRes m n) := by
  have ha1 := ha
  have hb1 := hb
  obtain ⟨a1, c1, z1, r1, x1, rfl, _⟩ := ha1
  obtain ⟨a2, c2, z2, r2, x2, rfl, _⟩ := hb1
  have hl := hb.len0
  refine contract_of Tryz.func16 rfl (by kernel_rfl) ?_
  simp only [Tryz.ntmps16, argEnv]
  (repeat refine Sat.seq ?_)
  (refine Sat.region_k fun k hk => ?_; simp -implicitDefEqProofs only [evr, id, reduceCtorEq, reduceIte, Nat.reduceMul, Nat.reduceAdd, Nat.reduceLT, Nat.reduceLeDiff, Nat.reduceEqDiff, Int.reduceLT, Int.reduceBEq, Int.reduceBNe, Nat.reduceBEq, frS, evn]; refine hk _ ?_; clear hk k; try show Sat _ _ _ _ _)
  (repeat refine Sat.seq ?_)
  (refine Sat.region_k fun k hk => ?_; simp -implicitDefEqProofs only [evr, id, reduceCtorEq, reduceIte, Nat.reduceMul, Nat.reduceAdd, Nat.reduceLT, Nat.reduceLeDiff, Nat.reduceEqDiff, Int.reduceLT, Int.reduceBEq, Int.reduceBNe, Nat.reduceBEq, frS, evn]; refine hk _ ?_; clear hk k; try show Sat _ _ _ _ _)
  refine Sat.cond_b rfl (fun h => ?_) (fun h => ?_)
  · rw [hl] at h
    have h0 := of_decide_eq_true h
    subst h0
    (repeat refine Sat.seq ?_)
    (refine Sat.region_k fun k hk => ?_; simp -implicitDefEqProofs only [evr, id, reduceCtorEq, reduceIte, Nat.reduceMul, Nat.reduceAdd, Nat.reduceLT, Nat.reduceLeDiff, Nat.reduceEqDiff, Int.reduceLT, Int.reduceBEq, Int.reduceBNe, Nat.reduceBEq, frS, evn]; refine hk _ ?_; clear hk k; try show Sat _ _ _ _ _)
    refine Sat.ret ?_
    simp only [Tryz.results16, evr, id, reduceCtorEq, reduceIte, Nat.reduceMul, Nat.reduceAdd, Nat.reduceLT, Nat.reduceLeDiff, Nat.reduceEqDiff, Int.reduceLT, Int.reduceBEq, Int.reduceBNe, Nat.reduceBEq, List.append_nil, Int.toNat_zero, Nat.sub_self, frS]
    exact ⟨_, _, rfl, by rw [Nat.div_zero]; exact Nats.nil, Nats.nil⟩
  · rw [hl] at h
    have h0 := of_decide_eq_false h
    refine Sat.skip ?_
    simp only [thenK]
    (repeat refine Sat.seq ?_)
    (refine Sat.region_k fun k hk => ?_; simp -implicitDefEqProofs only [evr, id, reduceCtorEq, reduceIte, Nat.reduceMul, Nat.reduceAdd, Nat.reduceLT, Nat.reduceLeDiff, Nat.reduceEqDiff, Int.reduceLT, Int.reduceBEq, Int.reduceBNe, Nat.reduceBEq, frS, evn])
    refine wcall_slice (refSplitC F ha hb b1 b2 (by omega)) rfl rfl ?_
    rintro y ⟨s6, t6, rfl, hs6, ht6⟩
    have hs7 := hs6
    have ht7 := ht6
    obtain ⟨a6, c6, z6, r6, x6, rfl, _⟩ := hs6
    obtain ⟨a7, c7, z7, r7, x7, rfl, _⟩ := ht6
    simp -implicitDefEqProofs only [evr, id, reduceCtorEq, reduceIte, Nat.reduceMul, Nat.reduceAdd, Nat.reduceLT, Nat.reduceLeDiff, Nat.reduceEqDiff, Int.reduceLT, Int.reduceBEq, Int.reduceBNe, Nat.reduceBEq, frS, evn]
    (refine hk _ ?_; clear hk k; try show Sat _ _ _ _ _)
    (repeat refine Sat.seq ?_)
    (refine Sat.region_k fun k hk => ?_; simp -implicitDefEqProofs only [evr, id, reduceCtorEq, reduceIte, Nat.reduceMul, Nat.reduceAdd, Nat.reduceLT, Nat.reduceLeDiff, Nat.reduceEqDiff, Int.reduceLT, Int.reduceBEq, Int.reduceBNe, Nat.reduceBEq, frS, evn]; refine hk _ ?_; clear hk k; try show Sat _ _ _ _ _)
    refine Sat.ret ?_
    simp only [Tryz.results16, evr, id, reduceCtorEq, reduceIte, Nat.reduceMul, Nat.reduceAdd, Nat.reduceLT, Nat.reduceLeDiff, Nat.reduceEqDiff, Int.reduceLT, Int.reduceBEq, Int.reduceBNe, Nat.reduceBEq, List.append_nil, Int.toNat_zero, Nat.sub_self, frS]
    refine ⟨_, _, ?_, hs7, by rw [if_neg h0]; exact ht7⟩
    rw [if_neg h0]
    rfl
theorem refGcd2C (ha : Nats sa m) (hb : Nats sb n) (b1 : (m : Int) < pw 256) (b2 : (n : Int) < pw 256) : Contract F Tryz.prog 19 [sa, sb] (fun r => Nats r (Nat.gcd m n)) := by
  have h256 : pw 256 ≤ pw 512 := pw_mono (by omega)
  by_cases h0 : m = 0 ∨ n = 0
  · have e : Nat.gcd m n = m + n := by
      rcases h0 with h0 | h0 <;> subst h0 <;> simp
    have ha1 := ha
    have hb1 := hb
    obtain ⟨a1, c1, z1, r1, x1, rfl, _⟩ := ha1
    obtain ⟨a2, c2, z2, r2, x2, rfl, _⟩ := hb1
    have hl := ha.len0
    have hl2 := hb.len0
    refine contract_of Tryz.func19 rfl (by kernel_rfl) ?_
    simp only [Tryz.ntmps19, argEnv]
    (repeat refine Sat.seq ?_)
    (refine Sat.region_k fun k hk => ?_; simp -implicitDefEqProofs only [evr, id, reduceCtorEq, reduceIte, Nat.reduceMul, Nat.reduceAdd, Nat.reduceLT, Nat.reduceLeDiff, Nat.reduceEqDiff, Int.reduceLT, Int.reduceBEq, Int.reduceBNe, Nat.reduceBEq, frS, evn]; refine hk _ ?_; clear hk k; try show Sat _ _ _ _ _)
    (repeat refine Sat.seq ?_)
    refine Sat.region_at ⟨77, [(13, .b true), (0, .sl a1 x1.length c1 z1 r1), (1, .sl a2 x2.length c2 z2 r2)], []⟩ (fun k hk => ?_) ?_
    · simp -implicitDefEqProofs only [evr, id, reduceCtorEq, reduceIte, Nat.reduceMul, Nat.reduceAdd, Nat.reduceLT, Nat.reduceLeDiff, Nat.reduceEqDiff, Int.reduceLT, Int.reduceBEq, Int.reduceBNe, Nat.reduceBEq, frS, hl, hl2, evn]
      refine ⟨fun h9 => ?_, fun h9 => ?_⟩
      · refine hk _ ?_
        simp -implicitDefEqProofs only [evr, id, reduceCtorEq, reduceIte, Nat.reduceMul, Nat.reduceAdd, Nat.reduceLT, Nat.reduceLeDiff, Nat.reduceEqDiff, Int.reduceLT, Int.reduceBEq, Int.reduceBNe, Nat.reduceBEq, frS, evl, evn]
        try exact h9
      · refine hk _ ?_
        rw [decide_eq_true (show n = 0 by omega)]
        simp -implicitDefEqProofs only [evr, id, reduceCtorEq, reduceIte, Nat.reduceMul, Nat.reduceAdd, Nat.reduceLT, Nat.reduceLeDiff, Nat.reduceEqDiff, Int.reduceLT, Int.reduceBEq, Int.reduceBNe, Nat.reduceBEq, frS, evl, evn]
    simp only [thenK]
    refine Sat.cond_b rfl (fun _ => ?_) (fun h => by cases h)
    (repeat refine Sat.seq ?_)
    (refine Sat.region_k fun k hk => ?_; simp -implicitDefEqProofs only [evr, id, reduceCtorEq, reduceIte, Nat.reduceMul, Nat.reduceAdd, Nat.reduceLT, Nat.reduceLeDiff, Nat.reduceEqDiff, Int.reduceLT, Int.reduceBEq, Int.reduceBNe, Nat.reduceBEq, frS, evn])
    refine wcall_slice (refPlusC F ha hb (by omega) (by omega)) rfl rfl ?_
    intro y hy
    have hs5 := hy
    obtain ⟨a5, c5, z5, r5, x5, rfl, _⟩ := hy
    simp -implicitDefEqProofs only [evr, id, reduceCtorEq, reduceIte, Nat.reduceMul, Nat.reduceAdd, Nat.reduceLT, Nat.reduceLeDiff, Nat.reduceEqDiff, Int.reduceLT, Int.reduceBEq, Int.reduceBNe, Nat.reduceBEq, frS, evn]
    (refine hk _ ?_; clear hk k; try show Sat _ _ _ _ _)
    refine Sat.ret ?_
    simp only [Tryz.results19, evr, id, reduceCtorEq, reduceIte, Nat.reduceMul, Nat.reduceAdd, Nat.reduceLT, Nat.reduceLeDiff, Nat.reduceEqDiff, Int.reduceLT, Int.reduceBEq, Int.reduceBNe, Nat.reduceBEq, List.append_nil, Int.toNat_zero, Nat.sub_self, frS]
    rw [e]
    exact hs5
  · exact refGcdC F ha hb b1 b2 (by omega) (by omega)
theorem rd_to9 {R : Nat → Prop} {w : World} {s : SV} {n : Nat} (hs : s.ok R w) (hn : Nats s n) (hR : ∀ b, R b → b < w.heap.size) : ∃ xs, @Zn.Rd (zoneOf R w) .i64 w s.den xs ∧ Dig xs n := nat_to hs hn hR
theorem natTrimC (ha : Nats sa m) : Contract F Tryz.prog 73 [sa] (fun r => Nats r m) := by
  refine ofCalls Tryz.func73 rfl (by kernel_rfl) fun R w hargs hR => ?_
  obtain ⟨xs, hr, hd⟩ := rd_to9 (hargs sa (by simp)) ha hR
  refine (@Zn.trim_rd (zoneOf R w) _ _ w hr).mono ?_
  rintro e w' ⟨v, rfl, hv, rfl⟩
  have ht : trim xs = xs := trim_of_norm hd.norm
  rw [ht] at hv
  obtain ⟨t, rfl, ht, hok⟩ := nat_from (R := R) (w := w) (w' := w) (n := m) ⟨_, hv, hd⟩
  exact ⟨t, rfl, ht, hok, Below.refl _ _⟩
theorem natDivMod0C (ha : Nats sa m) (hb : Nats sb 0) : Contract F Tryz.prog 15 [sa, sb] (divRes m 0) := by
  have ha1 := ha
  have hb1 := hb
  obtain ⟨a1, c1, z1, r1, x1, rfl, _⟩ := ha1
  obtain ⟨a2, c2, z2, r2, x2, rfl, _⟩ := hb1
  refine contract_of Tryz.func15 rfl (by kernel_rfl) ?_
  simp only [Tryz.ntmps15, argEnv]
  (repeat refine Sat.seq ?_)
  (refine Sat.region_k fun k hk => ?_; simp -implicitDefEqProofs only [evr, id, reduceCtorEq, reduceIte, Nat.reduceMul, Nat.reduceAdd, Nat.reduceLT, Nat.reduceLeDiff, Nat.reduceEqDiff, Int.reduceLT, Int.reduceBEq, Int.reduceBNe, Nat.reduceBEq, frS, evn]; refine hk _ ?_; clear hk k; try show Sat _ _ _ _ _)
  (repeat refine Sat.seq ?_)
  (refine Sat.region_k fun k hk => ?_; simp -implicitDefEqProofs only [evr, id, reduceCtorEq, reduceIte, Nat.reduceMul, Nat.reduceAdd, Nat.reduceLT, Nat.reduceLeDiff, Nat.reduceEqDiff, Int.reduceLT, Int.reduceBEq, Int.reduceBNe, Nat.reduceBEq, frS, evn])
  refine wcall_slice (natTrimC F hb) rfl rfl ?_
  intro y hy
  have hy1 := hy
  obtain ⟨a5, c5, z5, r5, x5, rfl, _⟩ := hy
  have hl := hy1.len0
  simp -implicitDefEqProofs only [evr, id, reduceCtorEq, reduceIte, Nat.reduceMul, Nat.reduceAdd, Nat.reduceLT, Nat.reduceLeDiff, Nat.reduceEqDiff, Int.reduceLT, Int.reduceBEq, Int.reduceBNe, Nat.reduceBEq, frS, evn]
  (refine hk _ ?_; clear hk k; try show Sat _ _ _ _ _)
  (repeat refine Sat.seq ?_)
  (refine Sat.region_k fun k hk => ?_; simp -implicitDefEqProofs only [evr, id, reduceCtorEq, reduceIte, Nat.reduceMul, Nat.reduceAdd, Nat.reduceLT, Nat.reduceLeDiff, Nat.reduceEqDiff, Int.reduceLT, Int.reduceBEq, Int.reduceBNe, Nat.reduceBEq, frS, evn]; refine hk _ ?_; clear hk k; try show Sat _ _ _ _ _)
  (repeat refine Sat.seq ?_)
  refine Sat.block ?_
  (repeat refine Sat.seq ?_)
  (refine Sat.region_k fun k hk => ?_; simp -implicitDefEqProofs only [evr, id, reduceCtorEq, reduceIte, Nat.reduceMul, Nat.reduceAdd, Nat.reduceLT, Nat.reduceLeDiff, Nat.reduceEqDiff, Int.reduceLT, Int.reduceBEq, Int.reduceBNe, Nat.reduceBEq, frS, evn]; refine hk _ ?_; clear hk k; try show Sat _ _ _ _ _)
  refine Sat.cond_b rfl (fun h => ?_) (fun h => ?_)
  · (repeat refine Sat.seq ?_)
    (refine Sat.region_k fun k hk => ?_; simp -implicitDefEqProofs only [evr, id, reduceCtorEq, reduceIte, Nat.reduceMul, Nat.reduceAdd, Nat.reduceLT, Nat.reduceLeDiff, Nat.reduceEqDiff, Int.reduceLT, Int.reduceBEq, Int.reduceBNe, Nat.reduceBEq, frS, evn]; refine hk _ ?_; clear hk k; try show Sat _ _ _ _ _)
    refine Sat.ret ?_
    simp only [Tryz.results15, evr, id, reduceCtorEq, reduceIte, Nat.reduceMul, Nat.reduceAdd, Nat.reduceLT, Nat.reduceLeDiff, Nat.reduceEqDiff, Int.reduceLT, Int.reduceBEq, Int.reduceBNe, Nat.reduceBEq, List.append_nil, Int.toNat_zero, Nat.sub_self, frS]
    exact ⟨_, _, rfl, by rw [Nat.div_zero]; exact Nats.nil, Nats.nil⟩
  · rw [hl] at h
    exact absurd h (by decide)
theorem natDivMod2C (ha : Nats sa m) (hb : Nats sb n) (hm : (m : Int) < pw 256) : Contract F Tryz.prog 15 [sa, sb] (divRes m n) := by
  rcases Nat.eq_zero_or_pos n with h | h
  · subst h
    exact natDivMod0C F ha hb
  · refine (divModC F ha hb hm h).mono ?_
    rintro r ⟨s, t, rfl, hs, ht⟩
    refine ⟨s, t, ?_, hs, by rw [if_neg (by omega)]; exact ht⟩
    rw [if_neg (by omega)]
    rfl
end
end Go.Proofs.YtabgkfjfmjdfiaaGreatDoor


/- Texts of numbers, read by the reference and by the program: any text. -/
namespace Go.Proofs.YtabgkfjfmjdfiaaGreatDoor
namespace Tq
open Eng Lmb Go.RowKit
theorem byteAt_mk (l : List UInt8) (i : Nat) : byteAt (mkB l) i = ((l.getD i 0).toNat : Int) := by
  unfold byteAt
  by_cases h : i < l.length
  · have h1 : (mkB l)[i]? = some ((mkB l)[i]'(by rw [mkB_size]; exact h)) := getElem?_pos _ _ _
    rw [h1, List.getD_eq_getElem?_getD, List.getElem?_eq_getElem h]
    rfl
  · have h1 : (mkB l)[i]? = none := getElem?_neg _ _ (by rw [mkB_size]; exact h)
    rw [h1, List.getD_eq_getElem?_getD, List.getElem?_eq_none (by omega)]
theorem byte_eq (a b : UInt8) : (((a.toNat : Nat) : Int) == ((b.toNat : Nat) : Int)) = decide (a = b) := by
  apply Bool.eq_iff_iff.2
  simp only [beq_iff_eq, decide_eq_true_eq]
  constructor
  · intro h
    exact UInt8.toNat_inj.1 (by omega)
  · intro h; rw [h]
set_option maxRecDepth 100000 in
theorem rfDigitsC (F : Frm) (l : List UInt8) (hl : l.length ≤ 100000) : Contract F Tryz.prog 91 [sB l] (fun r => r = .b (digB l)) := by
  refine contract_of Tryz.func91 rfl (by kernel_rfl) ?_
  simp only [Tryz.ntmps91, argEnv]
  (repeat refine Sat.seq ?_)
  (refine Sat.region_k fun k hk => ?_; simp -implicitDefEqProofs only [evr, id, reduceCtorEq, reduceIte, Nat.reduceMul, Nat.reduceAdd, Nat.reduceLT, Nat.reduceLeDiff, Nat.reduceEqDiff, Int.reduceLT, Int.reduceBEq, Int.reduceBNe, Nat.reduceBEq, Int.reduceNeg, mkB_size, byteAt_mk, mkB_ext, mkB_append, mkB_toList, evn]; refine hk _ ?_; clear hk k; try show Sat _ _ _ _ _)
  (repeat refine Sat.seq ?_)
  (refine Sat.region_k fun k hk => ?_; simp -implicitDefEqProofs only [evr, id, reduceCtorEq, reduceIte, Nat.reduceMul, Nat.reduceAdd, Nat.reduceLT, Nat.reduceLeDiff, Nat.reduceEqDiff, Int.reduceLT, Int.reduceBEq, Int.reduceBNe, Nat.reduceBEq, Int.reduceNeg, mkB_size, byteAt_mk, mkB_ext, mkB_append, mkB_toList, evn]; refine hk _ ?_; clear hk k; try show Sat _ _ _ _ _)
  (repeat refine Sat.seq ?_)
  refine Sat.block ?_
  refine Sat.loop (ι := Nat) (fun i => ⟨33, [(3, .i .i64 i), (0, sB l)], []⟩) (fun i => i ≤ l.length ∧ (l.take i).all isDb = true) (fun i => l.length - i) 0 ⟨Nat.zero_le _, rfl⟩ (by simp -implicitDefEqProofs only [evr, id, reduceCtorEq, reduceIte, Nat.reduceMul, Nat.reduceAdd, Nat.reduceLT, Nat.reduceLeDiff, Nat.reduceEqDiff, Int.reduceLT, Int.reduceBEq, Int.reduceBNe, Nat.reduceBEq, Int.reduceNeg, mkB_size, byteAt_mk, mkB_ext, mkB_append, mkB_toList, evl, evn]; try rfl) ?_
  rintro i ⟨hi, hall⟩
  have e1 : IntKind.i64.wrap ((i : Int) + 1) = ((i + 1 : Nat) : Int) := by rw [w64 (by omega)]; omega
  (repeat refine Sat.seq ?_)
  (refine Sat.region_k fun k hk => ?_; simp -implicitDefEqProofs only [evr, id, reduceCtorEq, reduceIte, Nat.reduceMul, Nat.reduceAdd, Nat.reduceLT, Nat.reduceLeDiff, Nat.reduceEqDiff, Int.reduceLT, Int.reduceBEq, Int.reduceBNe, Nat.reduceBEq, Int.reduceNeg, mkB_size, byteAt_mk, mkB_ext, mkB_append, mkB_toList, evn]; refine hk _ ?_; clear hk k; try show Sat _ _ _ _ _)
  (repeat refine Sat.seq ?_)
  refine Sat.cond_b rfl (fun h => ?_) (fun h => ?_)
  · have hlt : i < l.length := by simp only [decide_eq_true_eq] at h; omega
    clear h
    have hmem : l.getD i 0 ∈ l := by rw [List.getD_eq_getElem?_getD, List.getElem?_eq_getElem hlt]; exact List.getElem_mem _
    have htk : l.take (i + 1) = l.take i ++ [l.getD i 0] := by
      rw [List.take_add_one, List.getElem?_eq_getElem hlt, List.getD_eq_getElem?_getD, List.getElem?_eq_getElem hlt]; rfl
    refine Sat.skip ?_
    simp only [thenK]
    (repeat refine Sat.seq ?_)
    refine Sat.block ?_
    (repeat refine Sat.seq ?_)
    refine Sat.region_at ⟨33, [(19, .b (!isDb (l.getD i 0))), (3, .i .i64 i), (0, sB l)], []⟩ (fun k hk => ?_) ?_
    · simp -implicitDefEqProofs only [evr, id, reduceCtorEq, reduceIte, Nat.reduceMul, Nat.reduceAdd, Nat.reduceLT, Nat.reduceLeDiff, Nat.reduceEqDiff, Int.reduceLT, Int.reduceBEq, Int.reduceBNe, Nat.reduceBEq, Int.reduceNeg, mkB_size, byteAt_mk, mkB_ext, mkB_append, mkB_toList, evn]
      refine ⟨by omega, fun h => ?_, fun h => ?_⟩
      · refine hk _ ?_
        have e : (!isDb (l.getD i 0)) = true := by
          generalize l.getD i 0 = c at h ⊢
          unfold isDb; simp; omega
        simp only [e]
        simp -implicitDefEqProofs only [evr, id, reduceCtorEq, reduceIte, Nat.reduceMul, Nat.reduceAdd, Nat.reduceLT, Nat.reduceLeDiff, Nat.reduceEqDiff, Int.reduceLT, Int.reduceBEq, Int.reduceBNe, Nat.reduceBEq, Int.reduceNeg, mkB_size, byteAt_mk, mkB_ext, mkB_append, mkB_toList, evl, evn]
      · refine ⟨by omega, ?_⟩
        refine hk _ ?_
        have e : decide (57 < ((l.getD i 0).toNat : Int)) = (!isDb (l.getD i 0)) := by
          generalize l.getD i 0 = c at h ⊢
          unfold isDb
          apply Bool.eq_iff_iff.2
          simp
          omega
        simp only [e]
        simp -implicitDefEqProofs only [evr, id, reduceCtorEq, reduceIte, Nat.reduceMul, Nat.reduceAdd, Nat.reduceLT, Nat.reduceLeDiff, Nat.reduceEqDiff, Int.reduceLT, Int.reduceBEq, Int.reduceBNe, Nat.reduceBEq, Int.reduceNeg, mkB_size, byteAt_mk, mkB_ext, mkB_append, mkB_toList, evl, evn]
    try simp only [thenK]
    refine Sat.cond_b rfl (fun h => ?_) (fun h => ?_)
    · (repeat refine Sat.seq ?_)
      (refine Sat.region_k fun k hk => ?_; simp -implicitDefEqProofs only [evr, id, reduceCtorEq, reduceIte, Nat.reduceMul, Nat.reduceAdd, Nat.reduceLT, Nat.reduceLeDiff, Nat.reduceEqDiff, Int.reduceLT, Int.reduceBEq, Int.reduceBNe, Nat.reduceBEq, Int.reduceNeg, mkB_size, byteAt_mk, mkB_ext, mkB_append, mkB_toList, evn]; refine hk _ ?_; clear hk k; try show Sat _ _ _ _ _)
      refine Sat.ret ?_
      simp only [Tryz.results91, evr, id, reduceCtorEq, reduceIte, Nat.reduceMul, Nat.reduceAdd, Nat.reduceLT, Nat.reduceLeDiff, Nat.reduceEqDiff, Int.reduceLT, Int.reduceBEq, Int.reduceBNe, Nat.reduceBEq, List.append_nil, Int.toNat_zero, Nat.sub_self, Int.reduceNeg, mkB_size, byteAt_mk, mkB_ext, mkB_append, mkB_toList]
      have : digB l = false := by
        unfold digB
        have h2 : l.all isDb = false := by
          apply Bool.eq_false_iff.2
          intro h3
          have := List.all_eq_true.1 h3 _ hmem
          rw [this] at h
          cases h
        rw [h2]; rfl
      rw [this]
    · refine Sat.skip ?_
      simp only [thenK, blockK]
      refine Sat.region_k fun k hk => ?_
      simp -implicitDefEqProofs only [evr, id, reduceCtorEq, reduceIte, Nat.reduceMul, Nat.reduceAdd, Nat.reduceLT, Nat.reduceLeDiff, Nat.reduceEqDiff, Int.reduceLT, Int.reduceBEq, Int.reduceBNe, Nat.reduceBEq, Int.reduceNeg, mkB_size, byteAt_mk, mkB_ext, mkB_append, mkB_toList, e1, evn]
      refine hk _ ?_
      simp only [thenK, blockK]
      refine ⟨i + 1, ⟨hlt, ?_⟩, by omega, ?_⟩
      · rw [htk, List.all_append, hall]
        simpa using h
      · simp -implicitDefEqProofs only [evr, id, reduceCtorEq, reduceIte, Nat.reduceMul, Nat.reduceAdd, Nat.reduceLT, Nat.reduceLeDiff, Nat.reduceEqDiff, Int.reduceLT, Int.reduceBEq, Int.reduceBNe, Nat.reduceBEq, Int.reduceNeg, mkB_size, byteAt_mk, mkB_ext, mkB_append, mkB_toList, evl, evn]
  · have hiN : i = l.length := by simp only [decide_eq_false_iff_not] at h; omega
    subst hiN
    rw [List.take_length] at hall
    refine Sat.exit ?_
    simp only [thenK, blockK, reduceIte]
    (repeat refine Sat.seq ?_)
    refine Sat.region_at ⟨33, [(2, .b (digB l))], []⟩ (fun k hk => ?_) ?_
    · have eB : digB l = (decide (0 < l.length) && (decide (l.length = 1) || decide (l.getD 0 0 ≠ 48))) := by unfold digB; rw [hall, Bool.true_and]
      simp -implicitDefEqProofs only [evr, id, reduceCtorEq, reduceIte, Nat.reduceMul, Nat.reduceAdd, Nat.reduceLT, Nat.reduceLeDiff, Nat.reduceEqDiff, Int.reduceLT, Int.reduceBEq, Int.reduceBNe, Nat.reduceBEq, Int.reduceNeg, mkB_size, byteAt_mk, mkB_ext, mkB_append, mkB_toList, evn]
      refine ⟨fun h1 => ⟨fun h2 => ?_, fun h2 => ?_⟩, fun h1 => ?_⟩
      · refine hk _ ?_
        have e : digB l = true := by
          rw [eB]
          have : l.length = 1 := by simp at h2; omega
          simp [this]
        simp only [e]
        simp -implicitDefEqProofs only [evr, id, reduceCtorEq, reduceIte, Nat.reduceMul, Nat.reduceAdd, Nat.reduceLT, Nat.reduceLeDiff, Nat.reduceEqDiff, Int.reduceLT, Int.reduceBEq, Int.reduceBNe, Nat.reduceBEq, Int.reduceNeg, mkB_size, byteAt_mk, mkB_ext, mkB_append, mkB_toList, evl, evn]
      · refine ⟨by omega, ?_⟩
        refine hk _ ?_
        have e : (((l.getD 0 0).toNat : Int) != 48) = digB l := by
          rw [eB]
          have h3 : l.length ≠ 1 := by simp at h2; omega
          have h4 : (((l.getD 0 0).toNat : Int) == 48) = decide (l.getD 0 0 = 48) := byte_eq _ 48
          have h5 : 0 < l.length := by omega
          simp only [bne, h4, decide_eq_true h5, decide_eq_false h3]
          by_cases h6 : l.getD 0 0 = 48 <;> simp [h6]
        simp only [e]
        simp -implicitDefEqProofs only [evr, id, reduceCtorEq, reduceIte, Nat.reduceMul, Nat.reduceAdd, Nat.reduceLT, Nat.reduceLeDiff, Nat.reduceEqDiff, Int.reduceLT, Int.reduceBEq, Int.reduceBNe, Nat.reduceBEq, Int.reduceNeg, mkB_size, byteAt_mk, mkB_ext, mkB_append, mkB_toList, evl, evn]
      · refine hk _ ?_
        have e : digB l = false := by
          rw [eB]
          have : ¬ 0 < l.length := by omega
          simp [this]
        simp only [e]
        simp -implicitDefEqProofs only [evr, id, reduceCtorEq, reduceIte, Nat.reduceMul, Nat.reduceAdd, Nat.reduceLT, Nat.reduceLeDiff, Nat.reduceEqDiff, Int.reduceLT, Int.reduceBEq, Int.reduceBNe, Nat.reduceBEq, Int.reduceNeg, mkB_size, byteAt_mk, mkB_ext, mkB_append, mkB_toList, evl, evn]
    try simp only [thenK]
    refine Sat.ret ?_
    simp only [Tryz.results91, evr, id, reduceCtorEq, reduceIte, Nat.reduceMul, Nat.reduceAdd, Nat.reduceLT, Nat.reduceLeDiff, Nat.reduceEqDiff, Int.reduceLT, Int.reduceBEq, Int.reduceBNe, Nat.reduceBEq, List.append_nil, Int.toNat_zero, Nat.sub_self, Int.reduceNeg, mkB_size, byteAt_mk, mkB_ext, mkB_append, mkB_toList]
set_option maxRecDepth 100000 in
theorem refPlusLC (F : Frm) {sa sb : SV} {xs ys : List Int} (hi1 : Ints sa xs) (hi2 : Ints sb ys) (d1 : Limbs xs) (d2 : Limbs ys) (l1 : xs.length ≤ 512) (l2 : ys.length ≤ 512) : Contract F Tryz.prog 70 [sa, sb] (fun r => ∃ os, Ints r os ∧ Limbs os ∧ val os = val xs + val ys) := by
  have hj1 := hi1
  have hj2 := hi2
  obtain ⟨a1, c1, z1, r1, rfl, _⟩ := hi1
  obtain ⟨a2, c2, z2, r2, rfl, _⟩ := hi2
  refine contract_of Tryz.func70 rfl (by kernel_rfl) ?_
  simp only [Tryz.ntmps70, argEnv]
  (repeat refine Sat.seq ?_)
  (refine Sat.region_k fun k hk => ?_; simp -implicitDefEqProofs only [evr, id, reduceCtorEq, reduceIte, Nat.reduceMul, Nat.reduceAdd, Nat.reduceLT, Nat.reduceLeDiff, Nat.reduceEqDiff, Int.reduceLT, Int.reduceBEq, Int.reduceBNe, Nat.reduceBEq, Int.reduceNeg, mkB_size, byteAt_mk, mkB_ext, mkB_append, mkB_toList, evn]; refine hk _ ?_; clear hk k; try show Sat _ _ _ _ _)
  (repeat refine Sat.seq ?_)
  (refine Sat.region_k fun k hk => ?_; simp -implicitDefEqProofs only [evr, id, reduceCtorEq, reduceIte, Nat.reduceMul, Nat.reduceAdd, Nat.reduceLT, Nat.reduceLeDiff, Nat.reduceEqDiff, Int.reduceLT, Int.reduceBEq, Int.reduceBNe, Nat.reduceBEq, Int.reduceNeg, mkB_size, byteAt_mk, mkB_ext, mkB_append, mkB_toList, evn]; refine hk _ ?_; clear hk k; try show Sat _ _ _ _ _)
  (repeat refine Sat.seq ?_)
  (refine Sat.region_k fun k hk => ?_; simp -implicitDefEqProofs only [evr, id, reduceCtorEq, reduceIte, Nat.reduceMul, Nat.reduceAdd, Nat.reduceLT, Nat.reduceLeDiff, Nat.reduceEqDiff, Int.reduceLT, Int.reduceBEq, Int.reduceBNe, Nat.reduceBEq, Int.reduceNeg, mkB_size, byteAt_mk, mkB_ext, mkB_append, mkB_toList, evn]; refine hk _ ?_; clear hk k; try show Sat _ _ _ _ _)
  (repeat refine Sat.seq ?_)
  (refine Sat.region_k fun k hk => ?_; simp -implicitDefEqProofs only [evr, id, reduceCtorEq, reduceIte, Nat.reduceMul, Nat.reduceAdd, Nat.reduceLT, Nat.reduceLeDiff, Nat.reduceEqDiff, Int.reduceLT, Int.reduceBEq, Int.reduceBNe, Nat.reduceBEq, Int.reduceNeg, mkB_size, byteAt_mk, mkB_ext, mkB_append, mkB_toList, evn]; refine hk _ ?_; clear hk k; try show Sat _ _ _ _ _)
  (repeat refine Sat.seq ?_)
  refine Sat.block ?_
  refine Sat.adopt 5 3 1 (fun p _ => .i .i64 (([] : List Int).getD p 0)) rfl ?_
  refine Sat.loop (ι := Nat × Int × List Int × Option Addr × Nat) (fun x => ⟨42, [(7, .i .i64 x.1), (6, .i .i64 x.2.1), (0, .sl a1 xs.length c1 z1 r1), (1, .sl a2 ys.length c2 z2 r2), (5, .os 0 x.2.2.2.1 x.1 x.2.2.2.2)], [.row x.2.2.2.1 3 x.1 x.2.2.2.2 1 (fun p _ => .i .i64 (x.2.2.1.getD p 0))]⟩)
    (fun x => PlusInv xs ys x.2.2.1 x.1 x.2.1) (fun x => 2000 - x.1) (0, 0, [], none, 0) (PlusInv.start xs ys) (by simp -implicitDefEqProofs only [evr, id, reduceCtorEq, reduceIte, Nat.reduceMul, Nat.reduceAdd, Nat.reduceLT, Nat.reduceLeDiff, Nat.reduceEqDiff, Int.reduceLT, Int.reduceBEq, Int.reduceBNe, Nat.reduceBEq, Int.reduceNeg, mkB_size, byteAt_mk, mkB_ext, mkB_append, mkB_toList, evl, evn]; try rfl) ?_
  rintro ⟨i, c, os, a, cap⟩ hinv
  simp only at hinv ⊢
  have t1 := hinv.tight
  have t2 := hinv.c0
  have t3 := hinv.c1
  have t4 := hinv.len
  have bx := limbs_getD d1 i
  have bY := limbs_getD d2 i
  have hi : i ≤ 513 := by omega
  (repeat refine Sat.seq ?_)
  refine Sat.region_at ⟨42, [(22, .b (decide (i < xs.length ∨ i < ys.length ∨ 0 < c))), (7, .i .i64 i), (6, .i .i64 c), (0, .sl a1 xs.length c1 z1 r1), (1, .sl a2 ys.length c2 z2 r2), (5, .os 0 a i cap)], [.row a 3 i cap 1 (fun p _ => .i .i64 (os.getD p 0))]⟩ (fun k hk => ?_) ?_
  · simp -implicitDefEqProofs only [evr, id, reduceCtorEq, reduceIte, Nat.reduceMul, Nat.reduceAdd, Nat.reduceLT, Nat.reduceLeDiff, Nat.reduceEqDiff, Int.reduceLT, Int.reduceBEq, Int.reduceBNe, Nat.reduceBEq, Int.reduceNeg, mkB_size, byteAt_mk, mkB_ext, mkB_append, mkB_toList, evn]
    refine ⟨fun h => ?_, fun h => ⟨fun h2 => ?_, fun h2 => ?_⟩⟩
    · refine hk _ ?_
      have e : decide (i < xs.length ∨ i < ys.length ∨ 0 < c) = true := decide_eq_true (.inl (by omega))
      rw [e]
      simp -implicitDefEqProofs only [evr, id, reduceCtorEq, reduceIte, Nat.reduceMul, Nat.reduceAdd, Nat.reduceLT, Nat.reduceLeDiff, Nat.reduceEqDiff, Int.reduceLT, Int.reduceBEq, Int.reduceBNe, Nat.reduceBEq, Int.reduceNeg, mkB_size, byteAt_mk, mkB_ext, mkB_append, mkB_toList, evl, evn]
    · refine hk _ ?_
      have e : decide (i < xs.length ∨ i < ys.length ∨ 0 < c) = true := decide_eq_true (.inr (.inl (by omega)))
      rw [e]
      simp -implicitDefEqProofs only [evr, id, reduceCtorEq, reduceIte, Nat.reduceMul, Nat.reduceAdd, Nat.reduceLT, Nat.reduceLeDiff, Nat.reduceEqDiff, Int.reduceLT, Int.reduceBEq, Int.reduceBNe, Nat.reduceBEq, Int.reduceNeg, mkB_size, byteAt_mk, mkB_ext, mkB_append, mkB_toList, evl, evn]
    · refine hk _ ?_
      have e : decide (i < xs.length ∨ i < ys.length ∨ 0 < c) = decide (0 < c) := by
        congr 1
        apply propext
        constructor
        · rintro (h3 | h3 | h3)
          · omega
          · omega
          · exact h3
        · exact fun h3 => .inr (.inr h3)
      rw [e]
      simp -implicitDefEqProofs only [evr, id, reduceCtorEq, reduceIte, Nat.reduceMul, Nat.reduceAdd, Nat.reduceLT, Nat.reduceLeDiff, Nat.reduceEqDiff, Int.reduceLT, Int.reduceBEq, Int.reduceBNe, Nat.reduceBEq, Int.reduceNeg, mkB_size, byteAt_mk, mkB_ext, mkB_append, mkB_toList, evl, evn]
  simp only [thenK]
  refine Sat.cond_b rfl (fun h => ?_) (fun h => ?_)
  · have hg : i < xs.length ∨ i < ys.length ∨ 0 < c := of_decide_eq_true h
    have hnext := hinv.step d1 d2 hg
    refine Sat.skip ?_
    simp only [thenK]
    (repeat refine Sat.seq ?_)
    refine Sat.block ?_
    (repeat refine Sat.seq ?_)
    (refine Sat.region_k fun k hk => ?_; simp -implicitDefEqProofs only [evr, id, reduceCtorEq, reduceIte, Nat.reduceMul, Nat.reduceAdd, Nat.reduceLT, Nat.reduceLeDiff, Nat.reduceEqDiff, Int.reduceLT, Int.reduceBEq, Int.reduceBNe, Nat.reduceBEq, Int.reduceNeg, mkB_size, byteAt_mk, mkB_ext, mkB_append, mkB_toList, evn])
    refine wcall_plain (refLimbC F hj1 i) (by simp -implicitDefEqProofs only [evr, id, reduceCtorEq, reduceIte, Nat.reduceMul, Nat.reduceAdd, Nat.reduceLT, Nat.reduceLeDiff, Nat.reduceEqDiff, Int.reduceLT, Int.reduceBEq, Int.reduceBNe, Nat.reduceBEq, Int.reduceNeg, mkB_size, byteAt_mk, mkB_ext, mkB_append, mkB_toList, evn]; try rfl) (by rintro _ rfl; exact ok_plain rfl) ?_
    rintro y rfl
    simp -implicitDefEqProofs only [evr, id, reduceCtorEq, reduceIte, Nat.reduceMul, Nat.reduceAdd, Nat.reduceLT, Nat.reduceLeDiff, Nat.reduceEqDiff, Int.reduceLT, Int.reduceBEq, Int.reduceBNe, Nat.reduceBEq, Int.reduceNeg, mkB_size, byteAt_mk, mkB_ext, mkB_append, mkB_toList, evn]
    refine wcall_plain (refLimbC F hj2 i) (by simp -implicitDefEqProofs only [evr, id, reduceCtorEq, reduceIte, Nat.reduceMul, Nat.reduceAdd, Nat.reduceLT, Nat.reduceLeDiff, Nat.reduceEqDiff, Int.reduceLT, Int.reduceBEq, Int.reduceBNe, Nat.reduceBEq, Int.reduceNeg, mkB_size, byteAt_mk, mkB_ext, mkB_append, mkB_toList, evn]; try rfl) (by rintro _ rfl; exact ok_plain rfl) ?_
    rintro y rfl
    have w1 : IntKind.i64.wrap (xs.getD i 0 + ys.getD i 0) = xs.getD i 0 + ys.getD i 0 := w64 (by omega)
    have w2 : IntKind.i64.wrap (xs.getD i 0 + ys.getD i 0 + c) = xs.getD i 0 + ys.getD i 0 + c := w64 (by omega)
    simp -implicitDefEqProofs only [evr, id, reduceCtorEq, reduceIte, Nat.reduceMul, Nat.reduceAdd, Nat.reduceLT, Nat.reduceLeDiff, Nat.reduceEqDiff, Int.reduceLT, Int.reduceBEq, Int.reduceBNe, Nat.reduceBEq, Int.reduceNeg, mkB_size, byteAt_mk, mkB_ext, mkB_append, mkB_toList, w1, w2, evn]
    refine hk _ ?_
    clear hk k
    try show Sat _ _ _ _ _
    have tm : (xs.getD i 0 + ys.getD i 0 + c).tmod 1073741824 = (xs.getD i 0 + ys.getD i 0 + c) % 1073741824 := Int.tmod_eq_emod_of_nonneg (by omega)
    have td : IntKind.i64.wrap ((xs.getD i 0 + ys.getD i 0 + c).tdiv 1073741824) = (xs.getD i 0 + ys.getD i 0 + c) / 1073741824 := by
      rw [Int.tdiv_eq_ediv_of_nonneg (by omega), w64 (by omega)]
    have ti : IntKind.i64.wrap ((i : Int) + 1) = ((i + 1 : Nat) : Int) := by rw [w64 (by omega)]; omega
    (repeat refine Sat.seq ?_)
    (refine Sat.region_k fun k hk => ?_; simp -implicitDefEqProofs only [evr, id, reduceCtorEq, reduceIte, Nat.reduceMul, Nat.reduceAdd, Nat.reduceLT, Nat.reduceLeDiff, Nat.reduceEqDiff, Int.reduceLT, Int.reduceBEq, Int.reduceBNe, Nat.reduceBEq, Int.reduceNeg, mkB_size, byteAt_mk, mkB_ext, mkB_append, mkB_toList, evn])
    refine ⟨by decide, fun blk => ?_⟩
    refine ⟨⟨by unfold maxLen; omega, by omega⟩, fun a2_1 cap2 => ?_⟩
    (refine hk _ ?_; clear hk k; try show Sat _ _ _ _ _)
    (repeat refine Sat.seq ?_)
    refine Sat.region_k fun k hk => ?_
    simp -implicitDefEqProofs only [evr, id, reduceCtorEq, reduceIte, Nat.reduceMul, Nat.reduceAdd, Nat.reduceLT, Nat.reduceLeDiff, Nat.reduceEqDiff, Int.reduceLT, Int.reduceBEq, Int.reduceBNe, Nat.reduceBEq, Int.reduceNeg, mkB_size, byteAt_mk, mkB_ext, mkB_append, mkB_toList, td, evn]
    refine ⟨by decide, ?_⟩
    refine hk _ ?_
    clear hk k
    simp only [thenK, blockK]
    (repeat refine Sat.seq ?_)
    refine Sat.region_k fun k hk => ?_
    simp -implicitDefEqProofs only [evr, id, reduceCtorEq, reduceIte, Nat.reduceMul, Nat.reduceAdd, Nat.reduceLT, Nat.reduceLeDiff, Nat.reduceEqDiff, Int.reduceLT, Int.reduceBEq, Int.reduceBNe, Nat.reduceBEq, Int.reduceNeg, mkB_size, byteAt_mk, mkB_ext, mkB_append, mkB_toList, ti, evn]
    refine hk _ ?_
    simp only [thenK, blockK]
    refine ⟨(i + 1, _, _, a2_1, cap2), hnext, by show 2000 - (i + 1) < 2000 - i; omega, ?_⟩
    simp -implicitDefEqProofs only [evr, id, reduceCtorEq, reduceIte, Nat.reduceMul, Nat.reduceAdd, Nat.reduceLT, Nat.reduceLeDiff, Nat.reduceEqDiff, Int.reduceLT, Int.reduceBEq, Int.reduceBNe, Nat.reduceBEq, Int.reduceNeg, mkB_size, byteAt_mk, mkB_ext, mkB_append, mkB_toList, evl, evn]
    exact rd_snoc t4 tm
  · have hg : ¬ (i < xs.length ∨ i < ys.length ∨ 0 < c) := of_decide_eq_false h
    have hd : val os = val xs + val ys := by
      have h8 := hinv.eq
      rw [List.take_of_length_le (by omega), List.take_of_length_le (by omega), show c = 0 by omega, Int.mul_zero, Int.add_zero] at h8
      exact h8
    refine Sat.exit ?_
    simp only [thenK, blockK, reduceIte]
    (repeat refine Sat.seq ?_)
    (refine Sat.region_k fun k hk => ?_; simp -implicitDefEqProofs only [evr, id, reduceCtorEq, reduceIte, Nat.reduceMul, Nat.reduceAdd, Nat.reduceLT, Nat.reduceLeDiff, Nat.reduceEqDiff, Int.reduceLT, Int.reduceBEq, Int.reduceBNe, Nat.reduceBEq, Int.reduceNeg, mkB_size, byteAt_mk, mkB_ext, mkB_append, mkB_toList, evn]; refine hk _ ?_; clear hk k; try show Sat _ _ _ _ _)
    refine Sat.ret ?_
    simp only [Tryz.results70, evr, id, reduceCtorEq, reduceIte, Nat.reduceMul, Nat.reduceAdd, Nat.reduceLT, Nat.reduceLeDiff, Nat.reduceEqDiff, Int.reduceLT, Int.reduceBEq, Int.reduceBNe, Nat.reduceBEq, List.append_nil, Int.toNat_zero, Nat.sub_self, Int.reduceNeg, mkB_size, byteAt_mk, mkB_ext, mkB_append, mkB_toList]
    subst t4
    exact ⟨os, ⟨_, _, 1, _, rfl, .inr rfl, fun p hp => rfl⟩, hinv.limbs, hd⟩
theorem ints_lit {a : Option Addr} {cap : Nat} {z : Int} : Ints (.sl a 1 cap 1 (rdL [SV.i .i64 z] 1)) [z] := ⟨a, cap, 1, _, rfl, .inr rfl, fun i hi => by
  obtain rfl : i = 0 := by simpa using hi
  rfl⟩
theorem natsLit {a : Option Addr} {cap : Nat} {z : Int} {x : Nat} (e : z = x) (h1 : x < 1073741824) (h0 : 0 < x) : Nats (.sl a 1 cap 1 (rdL [SV.i .i64 z] 1)) x :=
  Ints.nats ints_lit ⟨limbs_cons.2 ⟨by omega, limbs_nil⟩, norm_one.2 (by omega), by simp [Lmb.val]; omega⟩
def parV (l : List UInt8) : Nat := if parE l = 0 then valD l else 0
theorem ten_two : ∀ n : Nat, 10 ^ n ≤ 2 ^ (4 * n)
  | 0 => Nat.le_refl _
  | n + 1 => by
    rw [Nat.pow_succ, show 4 * (n + 1) = 4 * n + 4 by omega, Nat.pow_add]
    exact Nat.mul_le_mul (ten_two n) (by decide)
theorem lt512_dec {l : List UInt8} (h : ∀ c ∈ l, isDig c) (hl : l.length ≤ 2400) (i : Nat) : ((valD (l.take i) : Nat) : Int) < pw 330 :=
  lt_pw (Nat.le_of_lt (Nat.lt_of_lt_of_le (valD_take h i) (ten_two _))) (by omega)
set_option maxHeartbeats 1000000 in
set_option maxRecDepth 100000 in
theorem refParseC (F : Frm) (l : List UInt8) (hl : l.length ≤ 100000) : Contract F Tryz.prog 34 [sB l] (numRes (parE l) (parV l)) := by
  refine contract_of Tryz.func34 rfl (by kernel_rfl) ?_
  simp only [Tryz.ntmps34, argEnv]
  (repeat refine Sat.seq ?_)
  (refine Sat.region_k fun k hk => ?_; simp -implicitDefEqProofs only [evr, id, reduceCtorEq, reduceIte, Nat.reduceMul, Nat.reduceAdd, Nat.reduceLT, Nat.reduceLeDiff, Nat.reduceEqDiff, Int.reduceLT, Int.reduceBEq, Int.reduceBNe, Nat.reduceBEq, Int.reduceNeg, mkB_size, byteAt_mk, mkB_ext, mkB_append, mkB_toList, evn]; refine hk _ ?_; clear hk k; try show Sat _ _ _ _ _)
  (repeat refine Sat.seq ?_)
  (refine Sat.region_k fun k hk => ?_; simp -implicitDefEqProofs only [evr, id, reduceCtorEq, reduceIte, Nat.reduceMul, Nat.reduceAdd, Nat.reduceLT, Nat.reduceLeDiff, Nat.reduceEqDiff, Int.reduceLT, Int.reduceBEq, Int.reduceBNe, Nat.reduceBEq, Int.reduceNeg, mkB_size, byteAt_mk, mkB_ext, mkB_append, mkB_toList, evn])
  refine wcall_plain (rfDigitsC F l hl) rfl (by rintro _ rfl; exact ok_plain rfl) ?_
  rintro _ rfl
  simp -implicitDefEqProofs only [evr, id, reduceCtorEq, reduceIte, Nat.reduceMul, Nat.reduceAdd, Nat.reduceLT, Nat.reduceLeDiff, Nat.reduceEqDiff, Int.reduceLT, Int.reduceBEq, Int.reduceBNe, Nat.reduceBEq, Int.reduceNeg, mkB_size, byteAt_mk, mkB_ext, mkB_append, mkB_toList, evn]
  (refine hk _ ?_; clear hk k; try show Sat _ _ _ _ _)
  refine Sat.cond_b rfl (fun h => ?_) (fun h => ?_)
  · have h9 : digB l = false := by simpa using h
    (repeat refine Sat.seq ?_)
    (refine Sat.region_k fun k hk => ?_; simp -implicitDefEqProofs only [evr, id, reduceCtorEq, reduceIte, Nat.reduceMul, Nat.reduceAdd, Nat.reduceLT, Nat.reduceLeDiff, Nat.reduceEqDiff, Int.reduceLT, Int.reduceBEq, Int.reduceBNe, Nat.reduceBEq, Int.reduceNeg, mkB_size, byteAt_mk, mkB_ext, mkB_append, mkB_toList, evn]; refine hk _ ?_; clear hk k; try show Sat _ _ _ _ _)
    refine Sat.ret ?_
    simp only [Tryz.results34, evr, id, reduceCtorEq, reduceIte, Nat.reduceMul, Nat.reduceAdd, Nat.reduceLT, Nat.reduceLeDiff, Nat.reduceEqDiff, Int.reduceLT, Int.reduceBEq, Int.reduceBNe, Nat.reduceBEq, List.append_nil, Int.toNat_zero, Nat.sub_self, Int.reduceNeg, mkB_size, byteAt_mk, mkB_ext, mkB_append, mkB_toList]
    rw [parV, parE_form h9]
    exact ⟨_, rfl, Nats.nil⟩
  have hd9 : digB l = true := by simpa using h
  obtain ⟨hne, hdig, _⟩ := (digB_iff l).1 hd9
  refine Sat.skip ?_
  simp only [thenK]
  (repeat refine Sat.seq ?_)
  (refine Sat.region_k fun k hk => ?_; simp -implicitDefEqProofs only [evr, id, reduceCtorEq, reduceIte, Nat.reduceMul, Nat.reduceAdd, Nat.reduceLT, Nat.reduceLeDiff, Nat.reduceEqDiff, Int.reduceLT, Int.reduceBEq, Int.reduceBNe, Nat.reduceBEq, Int.reduceNeg, mkB_size, byteAt_mk, mkB_ext, mkB_append, mkB_toList, evn]; refine hk _ ?_; clear hk k; try show Sat _ _ _ _ _)
  refine Sat.cond_b rfl (fun h => ?_) (fun h => ?_)
  · have h9 := of_decide_eq_true h
    (repeat refine Sat.seq ?_)
    (refine Sat.region_k fun k hk => ?_; simp -implicitDefEqProofs only [evr, id, reduceCtorEq, reduceIte, Nat.reduceMul, Nat.reduceAdd, Nat.reduceLT, Nat.reduceLeDiff, Nat.reduceEqDiff, Int.reduceLT, Int.reduceBEq, Int.reduceBNe, Nat.reduceBEq, Int.reduceNeg, mkB_size, byteAt_mk, mkB_ext, mkB_append, mkB_toList, evn]; refine hk _ ?_; clear hk k; try show Sat _ _ _ _ _)
    refine Sat.ret ?_
    simp only [Tryz.results34, evr, id, reduceCtorEq, reduceIte, Nat.reduceMul, Nat.reduceAdd, Nat.reduceLT, Nat.reduceLeDiff, Nat.reduceEqDiff, Int.reduceLT, Int.reduceBEq, Int.reduceBNe, Nat.reduceBEq, List.append_nil, Int.toNat_zero, Nat.sub_self, Int.reduceNeg, mkB_size, byteAt_mk, mkB_ext, mkB_append, mkB_toList]
    rw [parV, parE_long hd9 (by omega)]
    exact ⟨_, rfl, Nats.nil⟩
  have h9 := of_decide_eq_false h
  have hlen : l.length ≤ 2400 := by omega
  refine Sat.skip ?_
  simp only [thenK]
  (repeat refine Sat.seq ?_)
  (refine Sat.region_k fun k hk => ?_; simp -implicitDefEqProofs only [evr, id, reduceCtorEq, reduceIte, Nat.reduceMul, Nat.reduceAdd, Nat.reduceLT, Nat.reduceLeDiff, Nat.reduceEqDiff, Int.reduceLT, Int.reduceBEq, Int.reduceBNe, Nat.reduceBEq, Int.reduceNeg, mkB_size, byteAt_mk, mkB_ext, mkB_append, mkB_toList, evn]; refine hk _ ?_; clear hk k; try show Sat _ _ _ _ _)
  (repeat refine Sat.seq ?_)
  (refine Sat.region_k fun k hk => ?_; simp -implicitDefEqProofs only [evr, id, reduceCtorEq, reduceIte, Nat.reduceMul, Nat.reduceAdd, Nat.reduceLT, Nat.reduceLeDiff, Nat.reduceEqDiff, Int.reduceLT, Int.reduceBEq, Int.reduceBNe, Nat.reduceBEq, Int.reduceNeg, mkB_size, byteAt_mk, mkB_ext, mkB_append, mkB_toList, evn]; refine hk _ ?_; clear hk k; try show Sat _ _ _ _ _)
  (repeat refine Sat.seq ?_)
  refine Sat.block ?_
  refine Sat.loop (ι := Nat × SV) (fun x => ⟨33, [(5, .i .i64 x.1), (4, x.2), (0, sB l)], []⟩)
    (fun x => x.1 ≤ l.length ∧ Nats x.2 (valD (l.take x.1))) (fun x => l.length - x.1) (0, .sl none 0 0 0 fun _ _ => .v undef) ⟨Nat.zero_le _, Nats.nil⟩ (by
      simp -implicitDefEqProofs only [evr, id, reduceCtorEq, reduceIte, Nat.reduceMul, Nat.reduceAdd, Nat.reduceLT, Nat.reduceLeDiff, Nat.reduceEqDiff, Int.reduceLT, Int.reduceBEq, Int.reduceBNe, Nat.reduceBEq, Int.reduceNeg, mkB_size, byteAt_mk, mkB_ext, mkB_append, mkB_toList, evl, evn]
      repeat' (first | rfl | (refine And.intro ?_ ?_))) ?_
  rintro ⟨i, sn⟩ ⟨hi, hn⟩
  simp only at hi hn ⊢
  have hn1 := hn
  obtain ⟨a1, c1, z1, r1, x1, rfl, _⟩ := hn
  (repeat refine Sat.seq ?_)
  (refine Sat.region_k fun k hk => ?_; simp -implicitDefEqProofs only [evr, id, reduceCtorEq, reduceIte, Nat.reduceMul, Nat.reduceAdd, Nat.reduceLT, Nat.reduceLeDiff, Nat.reduceEqDiff, Int.reduceLT, Int.reduceBEq, Int.reduceBNe, Nat.reduceBEq, Int.reduceNeg, mkB_size, byteAt_mk, mkB_ext, mkB_append, mkB_toList, evn]; refine hk _ ?_; clear hk k; try show Sat _ _ _ _ _)
  (repeat refine Sat.seq ?_)
  refine Sat.cond_b rfl (fun h => ?_) (fun h => ?_)
  · have hlt : i < l.length := by have := of_decide_eq_true h; omega
    have hb := lt512_dec hdig hlen i
    have hmem : l.getD i 0 ∈ l := by rw [List.getD_eq_getElem?_getD, List.getElem?_eq_getElem hlt]; exact List.getElem_mem _
    obtain ⟨g1, g2⟩ := hdig _ hmem
    have htk : l.take (i + 1) = l.take i ++ [l.getD i 0] := by
      rw [List.take_add_one, List.getElem?_eq_getElem hlt, List.getD_eq_getElem?_getD, List.getElem?_eq_getElem hlt]; rfl
    have hvs : valD (l.take (i + 1)) = 10 * valD (l.take i) + ((l.getD i 0).toNat - 48) := by rw [htk, valD_snoc]
    refine Sat.skip ?_
    simp only [thenK]
    (repeat refine Sat.seq ?_)
    refine Sat.block ?_
    (repeat refine Sat.seq ?_)
    have hb5 : ((valD (l.take i) : Nat) : Int) < pw 512 := Int.lt_of_lt_of_le hb (pw_mono (by decide))
    have hb6 : ((valD (l.take i) * 10 : Nat) : Int) < pw 512 := by
      refine Int.lt_of_lt_of_le ?_ (pw_mono (show 331 ≤ 512 by decide))
      rw [pw_succ]
      omega
    have e1 : IntKind.u8.wrap (((l.getD i 0).toNat : Int) - 48) = (((l.getD i 0).toNat - 48 : Nat) : Int) := by
      have hw : ∀ z : Int, IntKind.u8.wrap z = z % 256 := fun z => by unfold IntKind.wrap; simp [IntKind.bits, IntKind.signed]
      rw [hw]; omega
    have e2 : IntKind.i64.wrap (((l.getD i 0).toNat - 48 : Nat) : Int) = (((l.getD i 0).toNat - 48 : Nat) : Int) := w64 (by omega)
    have e3 : IntKind.i64.wrap ((i : Int) + 1) = ((i + 1 : Nat) : Int) := by rw [w64 (by omega)]; omega
    (refine Sat.region_tree (.keep [0, 3, 4, 5, 6, 7] [1, 2] (.alt 1 (.alt 2 (.one 8 (.one 9 (.one 10 (.one 11 .done)))) (.alt 8 (.one 2 (.one 9 (.one 10 (.one 11 .done)))) .none)) (.alt 8 (.one 1 (.one 2 (.one 9 (.one 10 (.one 11 .done))))) .none))) (by kernel_rfl) (by kernel_rfl) (fun _ _ h => h) fun k hk => ?_; simp only [WOT, List.map_cons, List.map_nil, List.getD_cons_zero, List.getD_cons_succ]; simp -implicitDefEqProofs only [evr, id, reduceCtorEq, reduceIte, Nat.reduceMul, Nat.reduceAdd, Nat.reduceLT, Nat.reduceLeDiff, Nat.reduceEqDiff, Int.reduceLT, Int.reduceBEq, Int.reduceBNe, Nat.reduceBEq, Int.reduceNeg, mkB_size, byteAt_mk, mkB_ext, mkB_append, mkB_toList, WOT, evn])
    refine ⟨by omega, fun blk => ⟨?_, fun blk1 => ?_⟩, fun blk1 blk => ?_⟩
    · refine wcall_slice (refTimesC F hn1 (natsLit (a := some ⟨blk, 0, none⟩) (cap := 1) (z := 10) (x := 10) rfl (by decide) (by decide)) hb5 (Int.lt_of_lt_of_le (by rw [pw_succ, pw_zero]; decide : ((10 : Nat) : Int) < pw 1) (pw_mono (by decide)))) (by simp -implicitDefEqProofs only [evr, id, reduceCtorEq, reduceIte, Nat.reduceMul, Nat.reduceAdd, Nat.reduceLT, Nat.reduceLeDiff, Nat.reduceEqDiff, Int.reduceLT, Int.reduceBEq, Int.reduceBNe, Nat.reduceBEq, Int.reduceNeg, mkB_size, byteAt_mk, mkB_ext, mkB_append, mkB_toList, evn]; try rfl) (by simp -implicitDefEqProofs only [evr, id, reduceCtorEq, reduceIte, Nat.reduceMul, Nat.reduceAdd, Nat.reduceLT, Nat.reduceLeDiff, Nat.reduceEqDiff, Int.reduceLT, Int.reduceBEq, Int.reduceBNe, Nat.reduceBEq, Int.reduceNeg, mkB_size, byteAt_mk, mkB_ext, mkB_append, mkB_toList, evn]; try rfl) ?_
      intro y hy
      obtain ⟨ys, hy2, dy⟩ := hy.ints
      have hy3 := hy2
      have ly := (dy.len_le 512).2 hb6
      obtain ⟨a5, c5, z5, r5, rfl, _⟩ := hy2
      simp -implicitDefEqProofs only [evr, id, reduceCtorEq, reduceIte, Nat.reduceMul, Nat.reduceAdd, Nat.reduceLT, Nat.reduceLeDiff, Nat.reduceEqDiff, Int.reduceLT, Int.reduceBEq, Int.reduceBNe, Nat.reduceBEq, Int.reduceNeg, mkB_size, byteAt_mk, mkB_ext, mkB_append, mkB_toList, e1, e2, evn]
      intro blk2
      refine wcall_slice (refPlusLC F hy3 (ints_lit (a := some ⟨blk2, 0, none⟩) (cap := 1) (z := (((l.getD i 0).toNat - 48 : Nat) : Int))) dy.limbs (limbs_cons.2 ⟨by omega, limbs_nil⟩) ly (by show 1 ≤ 512; decide)) (by simp -implicitDefEqProofs only [evr, id, reduceCtorEq, reduceIte, Nat.reduceMul, Nat.reduceAdd, Nat.reduceLT, Nat.reduceLeDiff, Nat.reduceEqDiff, Int.reduceLT, Int.reduceBEq, Int.reduceBNe, Nat.reduceBEq, Int.reduceNeg, mkB_size, byteAt_mk, mkB_ext, mkB_append, mkB_toList, evn]; try rfl) (by simp -implicitDefEqProofs only [evr, id, reduceCtorEq, reduceIte, Nat.reduceMul, Nat.reduceAdd, Nat.reduceLT, Nat.reduceLeDiff, Nat.reduceEqDiff, Int.reduceLT, Int.reduceBEq, Int.reduceBNe, Nat.reduceBEq, Int.reduceNeg, mkB_size, byteAt_mk, mkB_ext, mkB_append, mkB_toList, evn]; try rfl) ?_
      rintro y ⟨os, ho, lo, hv⟩
      have ho2 := ho
      obtain ⟨a6, c6, z6, r6, rfl, _⟩ := ho
      simp -implicitDefEqProofs only [evr, id, reduceCtorEq, reduceIte, Nat.reduceMul, Nat.reduceAdd, Nat.reduceLT, Nat.reduceLeDiff, Nat.reduceEqDiff, Int.reduceLT, Int.reduceBEq, Int.reduceBNe, Nat.reduceBEq, Int.reduceNeg, mkB_size, byteAt_mk, mkB_ext, mkB_append, mkB_toList, evn]
      refine wcall_slice (refTrimC F ho2 lo) (by simp -implicitDefEqProofs only [evr, id, reduceCtorEq, reduceIte, Nat.reduceMul, Nat.reduceAdd, Nat.reduceLT, Nat.reduceLeDiff, Nat.reduceEqDiff, Int.reduceLT, Int.reduceBEq, Int.reduceBNe, Nat.reduceBEq, Int.reduceNeg, mkB_size, byteAt_mk, mkB_ext, mkB_append, mkB_toList, evn]; try rfl) (by simp -implicitDefEqProofs only [evr, id, reduceCtorEq, reduceIte, Nat.reduceMul, Nat.reduceAdd, Nat.reduceLT, Nat.reduceLeDiff, Nat.reduceEqDiff, Int.reduceLT, Int.reduceBEq, Int.reduceBNe, Nat.reduceBEq, Int.reduceNeg, mkB_size, byteAt_mk, mkB_ext, mkB_append, mkB_toList, evn]; try rfl) ?_
      intro y hy
      have hval : (val os).toNat = valD (l.take (i + 1)) := by
        rw [hv, dy.val, hvs]
        simp [Lmb.val]
        omega
      rw [hval] at hy
      have hs7 := hy
      obtain ⟨a7, c7, z7, r7, x7, rfl, _⟩ := hy
      simp -implicitDefEqProofs only [evr, id, reduceCtorEq, reduceIte, Nat.reduceMul, Nat.reduceAdd, Nat.reduceLT, Nat.reduceLeDiff, Nat.reduceEqDiff, Int.reduceLT, Int.reduceBEq, Int.reduceBNe, Nat.reduceBEq, Int.reduceNeg, mkB_size, byteAt_mk, mkB_ext, mkB_append, mkB_toList, evn]
      refine hk _ ?_
      clear hk k
      simp only [thenK, blockK]
      refine Sat.region_k fun k hk => ?_
      simp -implicitDefEqProofs only [evr, id, reduceCtorEq, reduceIte, Nat.reduceMul, Nat.reduceAdd, Nat.reduceLT, Nat.reduceLeDiff, Nat.reduceEqDiff, Int.reduceLT, Int.reduceBEq, Int.reduceBNe, Nat.reduceBEq, Int.reduceNeg, mkB_size, byteAt_mk, mkB_ext, mkB_append, mkB_toList, e3, evn]
      refine hk _ ?_
      simp only [thenK, blockK]
      refine ⟨(i + 1, _), ⟨hlt, hs7⟩, by show l.length - (i + 1) < l.length - i; omega, ?_⟩
      simp -implicitDefEqProofs only [evr, id, reduceCtorEq, reduceIte, Nat.reduceMul, Nat.reduceAdd, Nat.reduceLT, Nat.reduceLeDiff, Nat.reduceEqDiff, Int.reduceLT, Int.reduceBEq, Int.reduceBNe, Nat.reduceBEq, Int.reduceNeg, mkB_size, byteAt_mk, mkB_ext, mkB_append, mkB_toList, evl, evn]
      repeat' (first | rfl | (refine And.intro ?_ ?_))
    · simp -implicitDefEqProofs only [evr, id, reduceCtorEq, reduceIte, Nat.reduceMul, Nat.reduceAdd, Nat.reduceLT, Nat.reduceLeDiff, Nat.reduceEqDiff, Int.reduceLT, Int.reduceBEq, Int.reduceBNe, Nat.reduceBEq, Int.reduceNeg, mkB_size, byteAt_mk, mkB_ext, mkB_append, mkB_toList, e1, e2, evn]
      refine wcall_slice (refTimesC F hn1 (natsLit (a := some ⟨blk, 0, none⟩) (cap := 1) (z := 10) (x := 10) rfl (by decide) (by decide)) hb5 (Int.lt_of_lt_of_le (by rw [pw_succ, pw_zero]; decide : ((10 : Nat) : Int) < pw 1) (pw_mono (by decide)))) (by simp -implicitDefEqProofs only [evr, id, reduceCtorEq, reduceIte, Nat.reduceMul, Nat.reduceAdd, Nat.reduceLT, Nat.reduceLeDiff, Nat.reduceEqDiff, Int.reduceLT, Int.reduceBEq, Int.reduceBNe, Nat.reduceBEq, Int.reduceNeg, mkB_size, byteAt_mk, mkB_ext, mkB_append, mkB_toList, evn]; try rfl) (by simp -implicitDefEqProofs only [evr, id, reduceCtorEq, reduceIte, Nat.reduceMul, Nat.reduceAdd, Nat.reduceLT, Nat.reduceLeDiff, Nat.reduceEqDiff, Int.reduceLT, Int.reduceBEq, Int.reduceBNe, Nat.reduceBEq, Int.reduceNeg, mkB_size, byteAt_mk, mkB_ext, mkB_append, mkB_toList, evn]; try rfl) ?_
      intro y hy
      obtain ⟨ys, hy2, dy⟩ := hy.ints
      have hy3 := hy2
      have ly := (dy.len_le 512).2 hb6
      obtain ⟨a5, c5, z5, r5, rfl, _⟩ := hy2
      simp -implicitDefEqProofs only [evr, id, reduceCtorEq, reduceIte, Nat.reduceMul, Nat.reduceAdd, Nat.reduceLT, Nat.reduceLeDiff, Nat.reduceEqDiff, Int.reduceLT, Int.reduceBEq, Int.reduceBNe, Nat.reduceBEq, Int.reduceNeg, mkB_size, byteAt_mk, mkB_ext, mkB_append, mkB_toList, evn]
      refine wcall_slice (refPlusLC F hy3 (ints_lit (a := some ⟨blk1, 0, none⟩) (cap := 1) (z := (((l.getD i 0).toNat - 48 : Nat) : Int))) dy.limbs (limbs_cons.2 ⟨by omega, limbs_nil⟩) ly (by show 1 ≤ 512; decide)) (by simp -implicitDefEqProofs only [evr, id, reduceCtorEq, reduceIte, Nat.reduceMul, Nat.reduceAdd, Nat.reduceLT, Nat.reduceLeDiff, Nat.reduceEqDiff, Int.reduceLT, Int.reduceBEq, Int.reduceBNe, Nat.reduceBEq, Int.reduceNeg, mkB_size, byteAt_mk, mkB_ext, mkB_append, mkB_toList, evn]; try rfl) (by simp -implicitDefEqProofs only [evr, id, reduceCtorEq, reduceIte, Nat.reduceMul, Nat.reduceAdd, Nat.reduceLT, Nat.reduceLeDiff, Nat.reduceEqDiff, Int.reduceLT, Int.reduceBEq, Int.reduceBNe, Nat.reduceBEq, Int.reduceNeg, mkB_size, byteAt_mk, mkB_ext, mkB_append, mkB_toList, evn]; try rfl) ?_
      rintro y ⟨os, ho, lo, hv⟩
      have ho2 := ho
      obtain ⟨a6, c6, z6, r6, rfl, _⟩ := ho
      simp -implicitDefEqProofs only [evr, id, reduceCtorEq, reduceIte, Nat.reduceMul, Nat.reduceAdd, Nat.reduceLT, Nat.reduceLeDiff, Nat.reduceEqDiff, Int.reduceLT, Int.reduceBEq, Int.reduceBNe, Nat.reduceBEq, Int.reduceNeg, mkB_size, byteAt_mk, mkB_ext, mkB_append, mkB_toList, evn]
      refine wcall_slice (refTrimC F ho2 lo) (by simp -implicitDefEqProofs only [evr, id, reduceCtorEq, reduceIte, Nat.reduceMul, Nat.reduceAdd, Nat.reduceLT, Nat.reduceLeDiff, Nat.reduceEqDiff, Int.reduceLT, Int.reduceBEq, Int.reduceBNe, Nat.reduceBEq, Int.reduceNeg, mkB_size, byteAt_mk, mkB_ext, mkB_append, mkB_toList, evn]; try rfl) (by simp -implicitDefEqProofs only [evr, id, reduceCtorEq, reduceIte, Nat.reduceMul, Nat.reduceAdd, Nat.reduceLT, Nat.reduceLeDiff, Nat.reduceEqDiff, Int.reduceLT, Int.reduceBEq, Int.reduceBNe, Nat.reduceBEq, Int.reduceNeg, mkB_size, byteAt_mk, mkB_ext, mkB_append, mkB_toList, evn]; try rfl) ?_
      intro y hy
      have hval : (val os).toNat = valD (l.take (i + 1)) := by
        rw [hv, dy.val, hvs]
        simp [Lmb.val]
        omega
      rw [hval] at hy
      have hs7 := hy
      obtain ⟨a7, c7, z7, r7, x7, rfl, _⟩ := hy
      simp -implicitDefEqProofs only [evr, id, reduceCtorEq, reduceIte, Nat.reduceMul, Nat.reduceAdd, Nat.reduceLT, Nat.reduceLeDiff, Nat.reduceEqDiff, Int.reduceLT, Int.reduceBEq, Int.reduceBNe, Nat.reduceBEq, Int.reduceNeg, mkB_size, byteAt_mk, mkB_ext, mkB_append, mkB_toList, evn]
      refine hk _ ?_
      clear hk k
      simp only [thenK, blockK]
      refine Sat.region_k fun k hk => ?_
      simp -implicitDefEqProofs only [evr, id, reduceCtorEq, reduceIte, Nat.reduceMul, Nat.reduceAdd, Nat.reduceLT, Nat.reduceLeDiff, Nat.reduceEqDiff, Int.reduceLT, Int.reduceBEq, Int.reduceBNe, Nat.reduceBEq, Int.reduceNeg, mkB_size, byteAt_mk, mkB_ext, mkB_append, mkB_toList, e3, evn]
      refine hk _ ?_
      simp only [thenK, blockK]
      refine ⟨(i + 1, _), ⟨hlt, hs7⟩, by show l.length - (i + 1) < l.length - i; omega, ?_⟩
      simp -implicitDefEqProofs only [evr, id, reduceCtorEq, reduceIte, Nat.reduceMul, Nat.reduceAdd, Nat.reduceLT, Nat.reduceLeDiff, Nat.reduceEqDiff, Int.reduceLT, Int.reduceBEq, Int.reduceBNe, Nat.reduceBEq, Int.reduceNeg, mkB_size, byteAt_mk, mkB_ext, mkB_append, mkB_toList, evl, evn]
      repeat' (first | rfl | (refine And.intro ?_ ?_))
    · simp -implicitDefEqProofs only [evr, id, reduceCtorEq, reduceIte, Nat.reduceMul, Nat.reduceAdd, Nat.reduceLT, Nat.reduceLeDiff, Nat.reduceEqDiff, Int.reduceLT, Int.reduceBEq, Int.reduceBNe, Nat.reduceBEq, Int.reduceNeg, mkB_size, byteAt_mk, mkB_ext, mkB_append, mkB_toList, e1, e2, evn]
      refine wcall_slice (refTimesC F hn1 (natsLit (a := some ⟨blk, 0, none⟩) (cap := 1) (z := 10) (x := 10) rfl (by decide) (by decide)) hb5 (Int.lt_of_lt_of_le (by rw [pw_succ, pw_zero]; decide : ((10 : Nat) : Int) < pw 1) (pw_mono (by decide)))) (by simp -implicitDefEqProofs only [evr, id, reduceCtorEq, reduceIte, Nat.reduceMul, Nat.reduceAdd, Nat.reduceLT, Nat.reduceLeDiff, Nat.reduceEqDiff, Int.reduceLT, Int.reduceBEq, Int.reduceBNe, Nat.reduceBEq, Int.reduceNeg, mkB_size, byteAt_mk, mkB_ext, mkB_append, mkB_toList, evn]; try rfl) (by simp -implicitDefEqProofs only [evr, id, reduceCtorEq, reduceIte, Nat.reduceMul, Nat.reduceAdd, Nat.reduceLT, Nat.reduceLeDiff, Nat.reduceEqDiff, Int.reduceLT, Int.reduceBEq, Int.reduceBNe, Nat.reduceBEq, Int.reduceNeg, mkB_size, byteAt_mk, mkB_ext, mkB_append, mkB_toList, evn]; try rfl) ?_
      intro y hy
      obtain ⟨ys, hy2, dy⟩ := hy.ints
      have hy3 := hy2
      have ly := (dy.len_le 512).2 hb6
      obtain ⟨a5, c5, z5, r5, rfl, _⟩ := hy2
      simp -implicitDefEqProofs only [evr, id, reduceCtorEq, reduceIte, Nat.reduceMul, Nat.reduceAdd, Nat.reduceLT, Nat.reduceLeDiff, Nat.reduceEqDiff, Int.reduceLT, Int.reduceBEq, Int.reduceBNe, Nat.reduceBEq, Int.reduceNeg, mkB_size, byteAt_mk, mkB_ext, mkB_append, mkB_toList, evn]
      refine wcall_slice (refPlusLC F hy3 (ints_lit (a := some ⟨blk1, 0, none⟩) (cap := 1) (z := (((l.getD i 0).toNat - 48 : Nat) : Int))) dy.limbs (limbs_cons.2 ⟨by omega, limbs_nil⟩) ly (by show 1 ≤ 512; decide)) (by simp -implicitDefEqProofs only [evr, id, reduceCtorEq, reduceIte, Nat.reduceMul, Nat.reduceAdd, Nat.reduceLT, Nat.reduceLeDiff, Nat.reduceEqDiff, Int.reduceLT, Int.reduceBEq, Int.reduceBNe, Nat.reduceBEq, Int.reduceNeg, mkB_size, byteAt_mk, mkB_ext, mkB_append, mkB_toList, evn]; try rfl) (by simp -implicitDefEqProofs only [evr, id, reduceCtorEq, reduceIte, Nat.reduceMul, Nat.reduceAdd, Nat.reduceLT, Nat.reduceLeDiff, Nat.reduceEqDiff, Int.reduceLT, Int.reduceBEq, Int.reduceBNe, Nat.reduceBEq, Int.reduceNeg, mkB_size, byteAt_mk, mkB_ext, mkB_append, mkB_toList, evn]; try rfl) ?_
      rintro y ⟨os, ho, lo, hv⟩
      have ho2 := ho
      obtain ⟨a6, c6, z6, r6, rfl, _⟩ := ho
      simp -implicitDefEqProofs only [evr, id, reduceCtorEq, reduceIte, Nat.reduceMul, Nat.reduceAdd, Nat.reduceLT, Nat.reduceLeDiff, Nat.reduceEqDiff, Int.reduceLT, Int.reduceBEq, Int.reduceBNe, Nat.reduceBEq, Int.reduceNeg, mkB_size, byteAt_mk, mkB_ext, mkB_append, mkB_toList, evn]
      refine wcall_slice (refTrimC F ho2 lo) (by simp -implicitDefEqProofs only [evr, id, reduceCtorEq, reduceIte, Nat.reduceMul, Nat.reduceAdd, Nat.reduceLT, Nat.reduceLeDiff, Nat.reduceEqDiff, Int.reduceLT, Int.reduceBEq, Int.reduceBNe, Nat.reduceBEq, Int.reduceNeg, mkB_size, byteAt_mk, mkB_ext, mkB_append, mkB_toList, evn]; try rfl) (by simp -implicitDefEqProofs only [evr, id, reduceCtorEq, reduceIte, Nat.reduceMul, Nat.reduceAdd, Nat.reduceLT, Nat.reduceLeDiff, Nat.reduceEqDiff, Int.reduceLT, Int.reduceBEq, Int.reduceBNe, Nat.reduceBEq, Int.reduceNeg, mkB_size, byteAt_mk, mkB_ext, mkB_append, mkB_toList, evn]; try rfl) ?_
      intro y hy
      have hval : (val os).toNat = valD (l.take (i + 1)) := by
        rw [hv, dy.val, hvs]
        simp [Lmb.val]
        omega
      rw [hval] at hy
      have hs7 := hy
      obtain ⟨a7, c7, z7, r7, x7, rfl, _⟩ := hy
      simp -implicitDefEqProofs only [evr, id, reduceCtorEq, reduceIte, Nat.reduceMul, Nat.reduceAdd, Nat.reduceLT, Nat.reduceLeDiff, Nat.reduceEqDiff, Int.reduceLT, Int.reduceBEq, Int.reduceBNe, Nat.reduceBEq, Int.reduceNeg, mkB_size, byteAt_mk, mkB_ext, mkB_append, mkB_toList, evn]
      refine hk _ ?_
      clear hk k
      simp only [thenK, blockK]
      refine Sat.region_k fun k hk => ?_
      simp -implicitDefEqProofs only [evr, id, reduceCtorEq, reduceIte, Nat.reduceMul, Nat.reduceAdd, Nat.reduceLT, Nat.reduceLeDiff, Nat.reduceEqDiff, Int.reduceLT, Int.reduceBEq, Int.reduceBNe, Nat.reduceBEq, Int.reduceNeg, mkB_size, byteAt_mk, mkB_ext, mkB_append, mkB_toList, e3, evn]
      refine hk _ ?_
      simp only [thenK, blockK]
      refine ⟨(i + 1, _), ⟨hlt, hs7⟩, by show l.length - (i + 1) < l.length - i; omega, ?_⟩
      simp -implicitDefEqProofs only [evr, id, reduceCtorEq, reduceIte, Nat.reduceMul, Nat.reduceAdd, Nat.reduceLT, Nat.reduceLeDiff, Nat.reduceEqDiff, Int.reduceLT, Int.reduceBEq, Int.reduceBNe, Nat.reduceBEq, Int.reduceNeg, mkB_size, byteAt_mk, mkB_ext, mkB_append, mkB_toList, evl, evn]
      repeat' (first | rfl | (refine And.intro ?_ ?_))
  · have hiN : i = l.length := by have := of_decide_eq_false h; omega
    subst hiN
    rw [List.take_length] at hn1
    refine Sat.exit ?_
    simp only [thenK, blockK, reduceIte]
    (repeat refine Sat.seq ?_)
    (refine Sat.region_k fun k hk => ?_; simp -implicitDefEqProofs only [evr, id, reduceCtorEq, reduceIte, Nat.reduceMul, Nat.reduceAdd, Nat.reduceLT, Nat.reduceLeDiff, Nat.reduceEqDiff, Int.reduceLT, Int.reduceBEq, Int.reduceBNe, Nat.reduceBEq, Int.reduceNeg, mkB_size, byteAt_mk, mkB_ext, mkB_append, mkB_toList, evn])
    refine wcall_slice (refLimitedC F hn1) rfl rfl ?_
    rintro y ⟨s6, rfl, hs6⟩
    have hs7 := hs6
    obtain ⟨a6, c6, z6, r6, x6, rfl, _⟩ := hs6
    simp -implicitDefEqProofs only [evr, id, reduceCtorEq, reduceIte, Nat.reduceMul, Nat.reduceAdd, Nat.reduceLT, Nat.reduceLeDiff, Nat.reduceEqDiff, Int.reduceLT, Int.reduceBEq, Int.reduceBNe, Nat.reduceBEq, Int.reduceNeg, mkB_size, byteAt_mk, mkB_ext, mkB_append, mkB_toList, evn]
    (refine hk _ ?_; clear hk k; try show Sat _ _ _ _ _)
    refine Sat.ret ?_
    simp only [Tryz.results34, evr, id, reduceCtorEq, reduceIte, Nat.reduceMul, Nat.reduceAdd, Nat.reduceLT, Nat.reduceLeDiff, Nat.reduceEqDiff, Int.reduceLT, Int.reduceBEq, Int.reduceBNe, Nat.reduceBEq, List.append_nil, Int.toNat_zero, Nat.sub_self, Int.reduceNeg, mkB_size, byteAt_mk, mkB_ext, mkB_append, mkB_toList]
    by_cases h8 : ((valD l : Nat) : Int) < pw 256
    · rw [limE_ok h8] at *
      rw [limV_ok h8] at hs7
      rw [parV, parE_ok hd9 (by omega) h8]
      exact ⟨_, rfl, hs7⟩
    · rw [limE_big h8] at *
      rw [limV_big h8] at hs7
      rw [parV, parE_big hd9 (by omega) h8]
      exact ⟨_, rfl, hs7⟩
end Tq
end Go.Proofs.YtabgkfjfmjdfiaaGreatDoor


/- natural.Parse of any text, by the evaluator. -/
namespace Go.Proofs.YtabgkfjfmjdfiaaGreatDoor
namespace Tq
open Eng Lmb Go.RowKit
theorem resultLongC (F : Frm) {s : SV} {xs : List Int} (h : Ints s xs) (hlen : 256 < (trim xs).length) : Contract F Tryz.prog 68 [s] (numRes 5 0) := by
  refine ofCalls Tryz.func68 rfl (by kernel_rfl) fun R w hargs hR => ?_
  refine (@Zn.result_rd_long (zoneOf R w) _ _ w (rd_to (hargs s (by simp)) h hR) hlen).mono ?_
  rintro e w' ⟨rfl, rfl⟩
  exact ⟨tupL [.sl none 0 0 0 (fun _ _ => default), .i .i64 5], rfl, ⟨_, rfl, Nats.nil⟩, tup2_ok ⟨Nat.le_refl _, by simp [maxLen], .inl rfl⟩ trivial, Below.refl _ _⟩
set_option maxHeartbeats 1000000 in
set_option maxRecDepth 100000 in
theorem natParseOkC (F : Frm) (l : List UInt8) (hd9 : digB l = true) (hbig : l.length ≤ 100000) : Contract F Tryz.prog 33 [sB l] (numRes (parE l) (parV l)) := by
  obtain ⟨hne, hd, h0⟩ := (digB_iff l).1 hd9
  have hlen : 0 < l.length := List.length_pos_iff.2 hne
  have htr : Lib.trimS l digSet = [] := trim_all fun c hc => dig_in (hd c hc)
  have tC := trimC F l (by omega)
  rw [htr] at tC
  refine contract_of Tryz.func33 rfl (by kernel_rfl) ?_
  simp only [Tryz.ntmps33, argEnv]
  (repeat refine Sat.seq ?_)
  (refine Sat.region_k fun k hk => ?_; simp -implicitDefEqProofs only [evr, id, reduceCtorEq, reduceIte, Nat.reduceMul, Nat.reduceAdd, Nat.reduceLT, Nat.reduceLeDiff, Nat.reduceEqDiff, Int.reduceLT, Int.reduceBEq, Int.reduceBNe, Nat.reduceBEq, evn]; refine hk _ ?_; clear hk k; try show Sat _ _ _ _ _)
  (repeat refine Sat.seq ?_)
  have q1 : (l == []) = false := by rw [beq_eq_false_iff_ne]; exact hne
  have q2 : (([] : List UInt8) != []) = false := by decide
  obtain ⟨c, hc⟩ : ∃ c, l[0]? = some c := ⟨_, List.getElem?_eq_getElem hlen⟩
  refine Sat.region_at ⟨68, [(27, .b false), (0, sB l), (2, .sl none 0 0 0 fun _ _ => .v undef), (3, .i .i64 0)], []⟩ (fun k hk => ?_) ?_
  · simp -implicitDefEqProofs only [evr, id, reduceCtorEq, reduceIte, Nat.reduceMul, Nat.reduceAdd, Nat.reduceLT, Nat.reduceLeDiff, Nat.reduceEqDiff, Int.reduceLT, Int.reduceBEq, Int.reduceBNe, Nat.reduceBEq, mkB_toList, emp_toList, q1, evn]
    refine wcall_plain tC rfl (by rintro _ rfl; exact ok_plain rfl) ?_
    rintro rr rfl
    simp -implicitDefEqProofs only [evr, id, reduceCtorEq, reduceIte, Nat.reduceMul, Nat.reduceAdd, Nat.reduceLT, Nat.reduceLeDiff, Nat.reduceEqDiff, Int.reduceLT, Int.reduceBEq, Int.reduceBNe, Nat.reduceBEq, mkB_toList, emp_toList, q2, evn]
    rw [byte_at l 0 c hc]
    have hc48 : ((c.toNat : Int) == 48) = true → l.length = 1 := fun h9 => by
      rw [beq_iff_eq] at h9
      rcases h0 with h0 | h0
      · exact h0
      · exfalso
        apply h0
        rw [hc]
        have e : c = UInt8.ofNat c.toNat := by simp
        rw [e, show c.toNat = 48 by omega]
        rfl
    refine ⟨⟨by omega, by rw [mkB_size]; omega⟩, fun h9 => ?_, fun h9 => ?_⟩
    · have e9 : decide (1 < ((mkB l).size : Int)) = false := decide_eq_false (by rw [mkB_size, hc48 h9]; decide)
      refine hk _ ?_
      simp only [e9]
      simp -implicitDefEqProofs only [evr, id, reduceCtorEq, reduceIte, Nat.reduceMul, Nat.reduceAdd, Nat.reduceLT, Nat.reduceLeDiff, Nat.reduceEqDiff, Int.reduceLT, Int.reduceBEq, Int.reduceBNe, Nat.reduceBEq, evl, evn]
      repeat' (first | rfl | (refine And.intro ?_ ?_))
    · refine hk _ ?_
      simp -implicitDefEqProofs only [evr, id, reduceCtorEq, reduceIte, Nat.reduceMul, Nat.reduceAdd, Nat.reduceLT, Nat.reduceLeDiff, Nat.reduceEqDiff, Int.reduceLT, Int.reduceBEq, Int.reduceBNe, Nat.reduceBEq, evl, evn]
      repeat' (first | rfl | (refine And.intro ?_ ?_))
  refine Sat.cond_b rfl (fun h => absurd h (by decide)) (fun _ => ?_)
  refine Sat.skip ?_
  simp only [thenK]
  (repeat refine Sat.seq ?_)
  (refine Sat.region_k fun k hk => ?_; simp -implicitDefEqProofs only [evr, id, reduceCtorEq, reduceIte, Nat.reduceMul, Nat.reduceAdd, Nat.reduceLT, Nat.reduceLeDiff, Nat.reduceEqDiff, Int.reduceLT, Int.reduceBEq, Int.reduceBNe, Nat.reduceBEq, evn]; refine hk _ ?_; clear hk k; try show Sat _ _ _ _ _)
  refine Sat.cond_b rfl (fun h => ?_) (fun h => ?_)
  · have h9 := of_decide_eq_true h
    rw [mkB_size] at h9
    (repeat refine Sat.seq ?_)
    (refine Sat.region_k fun k hk => ?_; simp -implicitDefEqProofs only [evr, id, reduceCtorEq, reduceIte, Nat.reduceMul, Nat.reduceAdd, Nat.reduceLT, Nat.reduceLeDiff, Nat.reduceEqDiff, Int.reduceLT, Int.reduceBEq, Int.reduceBNe, Nat.reduceBEq, evn]; refine hk _ ?_; clear hk k; try show Sat _ _ _ _ _)
    refine Sat.ret ?_
    simp only [Tryz.results33, evr, id, reduceCtorEq, reduceIte, Nat.reduceMul, Nat.reduceAdd, Nat.reduceLT, Nat.reduceLeDiff, Nat.reduceEqDiff, Int.reduceLT, Int.reduceBEq, Int.reduceBNe, Nat.reduceBEq, List.append_nil, Int.toNat_zero, Nat.sub_self]
    rw [parV, parE_long hd9 (by omega)]
    exact ⟨_, rfl, Nats.nil⟩
  have hl : l.length ≤ 2400 := by
    have h9 := of_decide_eq_false h
    rw [mkB_size] at h9
    omega
  refine Sat.skip ?_
  simp only [thenK]
  (repeat refine Sat.seq ?_)
  (refine Sat.region_k fun k hk => ?_; simp -implicitDefEqProofs only [evr, id, reduceCtorEq, reduceIte, Nat.reduceMul, Nat.reduceAdd, Nat.reduceLT, Nat.reduceLeDiff, Nat.reduceEqDiff, Int.reduceLT, Int.reduceBEq, Int.reduceBNe, Nat.reduceBEq, evn]; refine hk _ ?_; clear hk k; try show Sat _ _ _ _ _)
  (repeat refine Sat.seq ?_)
  refine Sat.region_range (by decide) (by decide) (by kernel_rfl) rfl ?_
  intro blk
  simp only [thenK]
  refine Sat.adopt 4 3 1 (fun p _ => .i .i64 (([] : List Int).getD p 0)) rfl ?_
  simp -implicitDefEqProofs only [evr, id, reduceCtorEq, reduceIte, Nat.reduceMul, Nat.reduceAdd, Nat.reduceLT, Nat.reduceLeDiff, Nat.reduceEqDiff, Int.reduceLT, Int.reduceBEq, Int.reduceBNe, Nat.reduceBEq, evn]
  (repeat refine Sat.seq ?_)
  try refine Sat.block ?_
  refine Sat.loop (ι := Nat × Option Addr × Nat × List Int) (fun x => ⟨68, [(32, .v (.pointer (some ⟨blk, 0, none⟩))), (4, .os 1 x.2.1 x.2.2.2.length x.2.2.1)], [.res blk (IterAt blk (mkB l) x.1), .row x.2.1 3 x.2.2.2.length x.2.2.1 1 (fun p _ => .i .i64 (x.2.2.2.getD p 0))]⟩)
    (fun x => x.1 ≤ l.length ∧ Limbs x.2.2.2 ∧ val x.2.2.2 = (valD (l.take x.1) : Int) ∧ x.2.2.2.length ≤ x.1) (fun x => l.length - x.1) (0, none, 0, []) ⟨Nat.zero_le _, limbs_nil, rfl, Nat.le_refl _⟩ (by
      simp -implicitDefEqProofs only [evr, id, reduceCtorEq, reduceIte, Nat.reduceMul, Nat.reduceAdd, Nat.reduceLT, Nat.reduceLeDiff, Nat.reduceEqDiff, Int.reduceLT, Int.reduceBEq, Int.reduceBNe, Nat.reduceBEq, evl, evn]
      repeat' (first | rfl | (refine And.intro ?_ ?_))) ?_
  rintro ⟨pos, a, cap, xs⟩ ⟨hpos, hlim, hval, hxl⟩
  simp only at hpos hlim hval hxl ⊢
  (repeat refine Sat.seq ?_)
  refine Sat.region_next (oid := 0) (s := mkB l) (pos := pos) (by decide) rfl rfl (fun h => by
    rw [byte_get]
    have := hd _ (List.getElem_mem (by rw [mkB_size] at h; exact h))
    exact Nat.lt_of_le_of_lt this.2 (by decide)) (fun h k hk => ?_) (fun h k hk => ?_)
  · have hp : pos < l.length := by rw [mkB_size] at h; exact h
    have hdig := hd _ (List.getElem_mem hp)
    have hgc := byte_get l pos h
    have htk : l.take (pos + 1) = l.take pos ++ [l[pos]] := by rw [List.take_add_one, List.getElem?_eq_getElem hp]; rfl
    have hvs : valD (l.take (pos + 1)) = 10 * valD (l.take pos) + (l[pos].toNat - 48) := by rw [htk, valD_snoc]
    simp only [hgc]
    generalize l[pos] = c9 at hdig hvs ⊢
    obtain ⟨g1, g2⟩ := hdig
    have e1 : IntKind.i32.wrap ((c9.toNat : Int) - 48) = ((c9.toNat - 48 : Nat) : Int) := by
      rw [IntWalk.i32_in _ ⟨by omega, by omega⟩]; omega
    have e2 : IntKind.i64.wrap ((c9.toNat - 48 : Nat) : Int) = ((c9.toNat - 48 : Nat) : Int) := w64 (by omega)
    simp -implicitDefEqProofs only [evr, id, reduceCtorEq, reduceIte, Nat.reduceMul, Nat.reduceAdd, Nat.reduceLT, Nat.reduceLeDiff, Nat.reduceEqDiff, Int.reduceLT, Int.reduceBEq, Int.reduceBNe, Nat.reduceBEq, evn]
    refine hk _ ?_
    clear hk k
    simp only [thenK]
    (repeat refine Sat.seq ?_)
    refine Sat.cond_b rfl (fun _ => ?_) (fun h9 => absurd h9 (by decide))
    refine Sat.skip ?_
    simp only [thenK]
    (repeat refine Sat.seq ?_)
    refine Sat.block ?_
    (repeat refine Sat.seq ?_)
    (refine Sat.region_k fun k hk => ?_; simp -implicitDefEqProofs only [evr, id, reduceCtorEq, reduceIte, Nat.reduceMul, Nat.reduceAdd, Nat.reduceLT, Nat.reduceLeDiff, Nat.reduceEqDiff, Int.reduceLT, Int.reduceBEq, Int.reduceBNe, Nat.reduceBEq, evn]; refine hk _ ?_; clear hk k; try show Sat _ _ _ _ _)
    (repeat refine Sat.seq ?_)
    refine Sat.region_k fun k hk => ?_
    simp -implicitDefEqProofs only [evr, id, reduceCtorEq, reduceIte, Nat.reduceMul, Nat.reduceAdd, Nat.reduceLT, Nat.reduceLeDiff, Nat.reduceEqDiff, Int.reduceLT, Int.reduceBEq, Int.reduceBNe, Nat.reduceBEq, e1, e2, evn]
    (refine hk _ ?_; clear hk k; try show Sat _ _ _ _ _)
    (repeat refine Sat.seq ?_)
    (refine Sat.region_k fun k hk => ?_; simp -implicitDefEqProofs only [evr, id, reduceCtorEq, reduceIte, Nat.reduceMul, Nat.reduceAdd, Nat.reduceLT, Nat.reduceLeDiff, Nat.reduceEqDiff, Int.reduceLT, Int.reduceBEq, Int.reduceBNe, Nat.reduceBEq, evn]; refine hk _ ?_; clear hk k; try show Sat _ _ _ _ _)
    (repeat refine Sat.seq ?_)
    refine Sat.block ?_
    refine Sat.loop (ι := Nat × List Int × Int) (fun x => ⟨68, [(41, .i .i64 x.1), (40, .i .i64 xs.length), (39, .os 1 a xs.length cap), (7, .i .i64 x.2.2), (32, .v (.pointer (some ⟨blk, 0, none⟩))), (4, .os 1 a xs.length cap)], [.res blk (IterAt blk (mkB l) (pos + 1)), .row a 3 xs.length cap 1 (fun p _ => .i .i64 (x.2.1.getD p 0))]⟩)
      (fun x => x.1 ≤ xs.length ∧ DigInv xs ((c9.toNat - 48 : Nat) : Int) x.1 x.2.1 x.2.2) (fun x => xs.length - x.1) (0, xs, ((c9.toNat - 48 : Nat) : Int)) ⟨Nat.zero_le _, DigInv.start hlim (by omega) (by omega)⟩ (by
        simp -implicitDefEqProofs only [evr, id, reduceCtorEq, reduceIte, Nat.reduceMul, Nat.reduceAdd, Nat.reduceLT, Nat.reduceLeDiff, Nat.reduceEqDiff, Int.reduceLT, Int.reduceBEq, Int.reduceBNe, Nat.reduceBEq, evl, evn]
        repeat' (first | rfl | (refine And.intro ?_ ?_))) ?_
    rintro ⟨i, ys, carry⟩ ⟨hi, hinv⟩
    simp only at hi hinv ⊢
    (repeat refine Sat.seq ?_)
    (refine Sat.region_k fun k hk => ?_; simp -implicitDefEqProofs only [evr, id, reduceCtorEq, reduceIte, Nat.reduceMul, Nat.reduceAdd, Nat.reduceLT, Nat.reduceLeDiff, Nat.reduceEqDiff, Int.reduceLT, Int.reduceBEq, Int.reduceBNe, Nat.reduceBEq, evn]; refine hk _ ?_; clear hk k; try show Sat _ _ _ _ _)
    (repeat refine Sat.seq ?_)
    refine Sat.cond_b rfl (fun h9 => ?_) (fun h9 => ?_)
    · have hi1 : i < xs.length := by have := of_decide_eq_true h9; omega
      clear h9
      have hnew := hinv.step hlim hi1
      have hc0 := hinv.c_lo
      have hc1 := hinv.c_hi
      have hyl := hinv.len
      have hyi : 0 ≤ ys.getD i 0 ∧ ys.getD i 0 < 1073741824 := by
        have e : ys.getD i 0 = ys[i]'(by omega) := by simp [List.getD, show i < ys.length by omega]
        rw [e]; exact hinv.limbs _ (List.getElem_mem _)
      have f1 : IntKind.i64.wrap (10 * ys.getD i 0) = 10 * ys.getD i 0 := w64 (by omega)
      have f2 : IntKind.i64.wrap (10 * ys.getD i 0 + carry) = 10 * ys.getD i 0 + carry := w64 (by omega)
      have f3 : bits .and .i64 (10 * ys.getD i 0 + carry) 1073741823 = (10 * ys.getD i 0 + carry) % 1073741824 := Zn.and_limb _
      have f4 : (10 * ys.getD i 0 + carry).fdiv (2 ^ min (Int.toNat 30) IntKind.i64.bits) = (10 * ys.getD i 0 + carry) / 1073741824 := by
        show (10 * ys.getD i 0 + carry).fdiv 1073741824 = _
        rw [Int.fdiv_eq_ediv_of_nonneg _ (by decide)]
      have f5 : IntKind.i64.wrap ((10 * ys.getD i 0 + carry) / 1073741824) = (10 * ys.getD i 0 + carry) / 1073741824 := w64 (by omega)
      have f6 : IntKind.i64.wrap ((i : Int) + 1) = ((i + 1 : Nat) : Int) := by rw [w64 (by omega)]; omega
      refine Sat.skip ?_
      simp only [thenK]
      (repeat refine Sat.seq ?_)
      refine Sat.block ?_
      (repeat refine Sat.seq ?_)
      (refine Sat.region_k fun k hk => ?_; simp -implicitDefEqProofs only [evr, id, reduceCtorEq, reduceIte, Nat.reduceMul, Nat.reduceAdd, Nat.reduceLT, Nat.reduceLeDiff, Nat.reduceEqDiff, Int.reduceLT, Int.reduceBEq, Int.reduceBNe, Nat.reduceBEq, evn])
      refine ⟨by omega, hi1, ?_⟩
      (refine hk _ ?_; clear hk k; try show Sat _ _ _ _ _)
      (repeat refine Sat.seq ?_)
      refine Sat.region_k fun k hk => ?_
      simp -implicitDefEqProofs only [evr, id, reduceCtorEq, reduceIte, Nat.reduceMul, Nat.reduceAdd, Nat.reduceLT, Nat.reduceLeDiff, Nat.reduceEqDiff, Int.reduceLT, Int.reduceBEq, Int.reduceBNe, Nat.reduceBEq, f1, f2, evn]
      (refine hk _ ?_; clear hk k; try show Sat _ _ _ _ _)
      refine Sat.region_k fun k hk => ?_
      simp -implicitDefEqProofs only [evr, id, reduceCtorEq, reduceIte, Nat.reduceMul, Nat.reduceAdd, Nat.reduceLT, Nat.reduceLeDiff, Nat.reduceEqDiff, Int.reduceLT, Int.reduceBEq, Int.reduceBNe, Nat.reduceBEq, f3, f4, f5, evn]
      refine ⟨by decide, by omega, hi1, ?_⟩
      refine hk _ ?_
      clear hk k
      simp only [thenK, blockK]
      refine Sat.region_k fun k hk => ?_
      simp -implicitDefEqProofs only [evr, id, reduceCtorEq, reduceIte, Nat.reduceMul, Nat.reduceAdd, Nat.reduceLT, Nat.reduceLeDiff, Nat.reduceEqDiff, Int.reduceLT, Int.reduceBEq, Int.reduceBNe, Nat.reduceBEq, f6, evn]
      refine hk _ ?_
      simp only [thenK, blockK]
      refine ⟨(i + 1, ys.set i ((10 * ys.getD i 0 + carry) % 1073741824), (10 * ys.getD i 0 + carry) / 1073741824), ⟨by omega, hnew⟩, by show _ - (i + 1) < _ - i; omega, ?_⟩
      have es := rd_set (qs := ys) (n := xs.length) (ix := i) (x := (10 * ys.getD i 0 + carry) % 1073741824) rfl (by omega)
      simp -implicitDefEqProofs only [evr, id, reduceCtorEq, reduceIte, Nat.reduceMul, Nat.reduceAdd, Nat.reduceLT, Nat.reduceLeDiff, Nat.reduceEqDiff, Int.reduceLT, Int.reduceBEq, Int.reduceBNe, Nat.reduceBEq, evl, evn]
      repeat' (first | exact es | rfl | (refine And.intro ?_ ?_))
    · have hi1 : i = xs.length := by have := of_decide_eq_false h9; omega
      subst hi1
      clear h9
      have hyl := hinv.len
      have hv9 := hinv.val
      rw [List.take_of_length_le (by omega), List.take_of_length_le (Nat.le_refl _), hval] at hv9
      have hc0 := hinv.c_lo
      have hc1 := hinv.c_hi
      refine Sat.exit ?_
      simp only [thenK, blockK, reduceIte]
      (repeat refine Sat.seq ?_)
      (refine Sat.region_k fun k hk => ?_; simp -implicitDefEqProofs only [evr, id, reduceCtorEq, reduceIte, Nat.reduceMul, Nat.reduceAdd, Nat.reduceLT, Nat.reduceLeDiff, Nat.reduceEqDiff, Int.reduceLT, Int.reduceBEq, Int.reduceBNe, Nat.reduceBEq, evn]; refine hk _ ?_; clear hk k; try show Sat _ _ _ _ _)
      refine Sat.cond_b rfl (fun h9 => ?_) (fun h9 => ?_)
      · have h9 := of_decide_eq_true h9
        refine Sat.region_k fun k hk => ?_
        simp -implicitDefEqProofs only [evr, id, reduceCtorEq, reduceIte, Nat.reduceMul, Nat.reduceAdd, Nat.reduceLT, Nat.reduceLeDiff, Nat.reduceEqDiff, Int.reduceLT, Int.reduceBEq, Int.reduceBNe, Nat.reduceBEq, evn]
        intro blk2
        refine ⟨⟨by unfold maxLen; omega, by omega⟩, fun a2 cap2 => ?_⟩
        refine hk _ ?_
        simp only [thenK, blockK]
        refine ⟨(pos + 1, a2, cap2, ys ++ [carry]), ⟨by omega, limbs_append.2 ⟨hinv.limbs, limbs_cons.2 ⟨by omega, limbs_nil⟩⟩, ?_, by simp; omega⟩, by show _ - (pos + 1) < _ - pos; omega, ?_⟩
        · rw [val_append, hyl, show Lmb.val [carry] = carry by simp [Lmb.val], hv9, hvs]
          omega
        · have es := rd_snoc (os := ys) (x := carry) (n := xs.length) hyl rfl
          simp only [List.length_append, List.length_cons, List.length_nil, hyl]
          simp -implicitDefEqProofs only [evr, id, reduceCtorEq, reduceIte, Nat.reduceMul, Nat.reduceAdd, Nat.reduceLT, Nat.reduceLeDiff, Nat.reduceEqDiff, Int.reduceLT, Int.reduceBEq, Int.reduceBNe, Nat.reduceBEq, evl, evn]
          repeat' (first | exact es | rfl | (refine And.intro ?_ ?_))
      · have h9 := of_decide_eq_false h9
        have hcz : carry = 0 := by omega
        subst hcz
        refine Sat.skip ?_
        simp only [thenK, blockK]
        refine ⟨(pos + 1, a, cap, ys), ⟨by omega, hinv.limbs, ?_, by show ys.length ≤ pos + 1; omega⟩, by show _ - (pos + 1) < _ - pos; omega, ?_⟩
        · rw [Int.mul_zero, Int.add_zero] at hv9
          rw [hv9, hvs]
          omega
        · simp only [hyl]
          simp -implicitDefEqProofs only [evr, id, reduceCtorEq, reduceIte, Nat.reduceMul, Nat.reduceAdd, Nat.reduceLT, Nat.reduceLeDiff, Nat.reduceEqDiff, Int.reduceLT, Int.reduceBEq, Int.reduceBNe, Nat.reduceBEq, evl, evn]
          repeat' (first | rfl | (refine And.intro ?_ ?_))
  · have hp : pos = l.length := by rw [mkB_size] at h; omega
    subst hp
    rw [List.take_length] at hval
    have hval2 : (val xs).toNat = valD l := by omega
    have hint : Ints (.sl a xs.length cap 1 (fun p _ => .i .i64 (xs.getD p 0))) xs := ⟨a, cap, 1, _, rfl, .inr rfl, fun _ _ => rfl⟩
    simp -implicitDefEqProofs only [evr, id, reduceCtorEq, reduceIte, Nat.reduceMul, Nat.reduceAdd, Nat.reduceLT, Nat.reduceLeDiff, Nat.reduceEqDiff, Int.reduceLT, Int.reduceBEq, Int.reduceBNe, Nat.reduceBEq, evn]
    refine hk _ ?_
    clear hk k
    simp only [thenK]
    (repeat refine Sat.seq ?_)
    refine Sat.cond_b rfl (fun h9 => absurd h9 (by decide)) (fun _ => ?_)
    refine Sat.exit ?_
    simp only [thenK, blockK, reduceIte]
    by_cases hv : ((valD l : Nat) : Int) < pw 256
    · have htr2 : (trim xs).length ≤ 256 := ((dig_trim hlim).len_le 256).2 (by rw [hval2]; exact hv)
      have rC := resultC F hint hlim htr2
      rw [hval2] at rC
      (repeat refine Sat.seq ?_)
      (refine Sat.region_k fun k hk => ?_; simp -implicitDefEqProofs only [evr, id, reduceCtorEq, reduceIte, Nat.reduceMul, Nat.reduceAdd, Nat.reduceLT, Nat.reduceLeDiff, Nat.reduceEqDiff, Int.reduceLT, Int.reduceBEq, Int.reduceBNe, Nat.reduceBEq, evn])
      refine wcall_slice rC rfl (by simp -implicitDefEqProofs only [evr, id, reduceCtorEq, reduceIte, Nat.reduceMul, Nat.reduceAdd, Nat.reduceLT, Nat.reduceLeDiff, Nat.reduceEqDiff, Int.reduceLT, Int.reduceBEq, Int.reduceBNe, Nat.reduceBEq, evn]; try rfl) ?_
      rintro r ⟨s9, rfl, hs9⟩
      have hs8 := hs9
      obtain ⟨a3, c3, z3, r3, x3, rfl, _⟩ := hs9
      simp -implicitDefEqProofs only [evr, id, reduceCtorEq, reduceIte, Nat.reduceMul, Nat.reduceAdd, Nat.reduceLT, Nat.reduceLeDiff, Nat.reduceEqDiff, Int.reduceLT, Int.reduceBEq, Int.reduceBNe, Nat.reduceBEq, evn]
      (refine hk _ ?_; clear hk k; try show Sat _ _ _ _ _)
      refine Sat.ret ?_
      simp only [Tryz.results33, evr, id, reduceCtorEq, reduceIte, Nat.reduceMul, Nat.reduceAdd, Nat.reduceLT, Nat.reduceLeDiff, Nat.reduceEqDiff, Int.reduceLT, Int.reduceBEq, Int.reduceBNe, Nat.reduceBEq, List.append_nil, Int.toNat_zero, Nat.sub_self]
      rw [parV, parE_ok hd9 (by omega) hv]
      exact ⟨_, rfl, hs8⟩
    · have htr2 : 256 < (trim xs).length := by
        rcases Nat.lt_or_ge 256 (trim xs).length with h9 | h9
        · exact h9
        · exfalso
          apply hv
          have := ((dig_trim hlim).len_le 256).1 h9
          rw [hval2] at this
          exact this
      have rC := resultLongC F hint htr2
      (repeat refine Sat.seq ?_)
      (refine Sat.region_k fun k hk => ?_; simp -implicitDefEqProofs only [evr, id, reduceCtorEq, reduceIte, Nat.reduceMul, Nat.reduceAdd, Nat.reduceLT, Nat.reduceLeDiff, Nat.reduceEqDiff, Int.reduceLT, Int.reduceBEq, Int.reduceBNe, Nat.reduceBEq, evn])
      refine wcall_slice rC rfl (by simp -implicitDefEqProofs only [evr, id, reduceCtorEq, reduceIte, Nat.reduceMul, Nat.reduceAdd, Nat.reduceLT, Nat.reduceLeDiff, Nat.reduceEqDiff, Int.reduceLT, Int.reduceBEq, Int.reduceBNe, Nat.reduceBEq, evn]; try rfl) ?_
      rintro r ⟨s9, rfl, hs9⟩
      have hs8 := hs9
      obtain ⟨a3, c3, z3, r3, x3, rfl, _⟩ := hs9
      simp -implicitDefEqProofs only [evr, id, reduceCtorEq, reduceIte, Nat.reduceMul, Nat.reduceAdd, Nat.reduceLT, Nat.reduceLeDiff, Nat.reduceEqDiff, Int.reduceLT, Int.reduceBEq, Int.reduceBNe, Nat.reduceBEq, evn]
      (refine hk _ ?_; clear hk k; try show Sat _ _ _ _ _)
      refine Sat.ret ?_
      simp only [Tryz.results33, evr, id, reduceCtorEq, reduceIte, Nat.reduceMul, Nat.reduceAdd, Nat.reduceLT, Nat.reduceLeDiff, Nat.reduceEqDiff, Int.reduceLT, Int.reduceBEq, Int.reduceBNe, Nat.reduceBEq, List.append_nil, Int.toNat_zero, Nat.sub_self]
      rw [parV, parE_big hd9 (by omega) hv]
      exact ⟨_, rfl, hs8⟩
set_option maxRecDepth 100000 in
theorem natParseBadC (F : Frm) (l : List UInt8) (hd9 : digB l = false) (hbig : l.length ≤ 100000) : Contract F Tryz.prog 33 [sB l] (numRes 2 0) := by
  have tC := trimC F l (by omega)
  refine contract_of Tryz.func33 rfl (by kernel_rfl) ?_
  simp only [Tryz.ntmps33, argEnv]
  (repeat refine Sat.seq ?_)
  (refine Sat.region_k fun k hk => ?_; simp -implicitDefEqProofs only [evr, id, reduceCtorEq, reduceIte, Nat.reduceMul, Nat.reduceAdd, Nat.reduceLT, Nat.reduceLeDiff, Nat.reduceEqDiff, Int.reduceLT, Int.reduceBEq, Int.reduceBNe, Nat.reduceBEq, evn]; refine hk _ ?_; clear hk k; try show Sat _ _ _ _ _)
  (repeat refine Sat.seq ?_)
  refine Sat.region_at ⟨68, [(27, .b true)], []⟩ (fun k hk => ?_) ?_
  · by_cases q1 : l = []
    · subst q1
      have q0 : (([] : List UInt8) == []) = true := rfl
      simp -implicitDefEqProofs only [evr, id, reduceCtorEq, reduceIte, Nat.reduceMul, Nat.reduceAdd, Nat.reduceLT, Nat.reduceLeDiff, Nat.reduceEqDiff, Int.reduceLT, Int.reduceBEq, Int.reduceBNe, Nat.reduceBEq, mkB_toList, emp_toList, q0, evn]
      refine hk _ ?_
      simp -implicitDefEqProofs only [evr, id, reduceCtorEq, reduceIte, Nat.reduceMul, Nat.reduceAdd, Nat.reduceLT, Nat.reduceLeDiff, Nat.reduceEqDiff, Int.reduceLT, Int.reduceBEq, Int.reduceBNe, Nat.reduceBEq, evl, evn]
    · have q2 : (l == []) = false := by rw [beq_eq_false_iff_ne]; exact q1
      have hlen : 0 < l.length := List.length_pos_iff.2 q1
      obtain ⟨c, hc⟩ : ∃ c, l[0]? = some c := ⟨_, List.getElem?_eq_getElem hlen⟩
      simp -implicitDefEqProofs only [evr, id, reduceCtorEq, reduceIte, Nat.reduceMul, Nat.reduceAdd, Nat.reduceLT, Nat.reduceLeDiff, Nat.reduceEqDiff, Int.reduceLT, Int.reduceBEq, Int.reduceBNe, Nat.reduceBEq, mkB_toList, emp_toList, q2, evn]
      refine wcall_plain tC rfl (by rintro _ rfl; exact ok_plain rfl) ?_
      rintro rr rfl
      by_cases q3 : Lib.trimS l digSet = []
      · have q4 : (([] : List UInt8) != []) = false := by decide
        have q5 : (!(([] : List UInt8) == [])) = false := by decide
        have hdig : ∀ c ∈ l, isDig c := fun c hc => set_dig (trim_some q3 c hc)
        have h2 : ¬ (l.length = 1 ∨ l[0]? ≠ some 48) := fun h => by
          rw [(digB_iff l).2 ⟨q1, hdig, h⟩] at hd9
          cases hd9
        have h48 : c = 48 := by
          rw [hc] at h2
          by_cases h9 : c = 48
          · exact h9
          · exact absurd (.inr (fun h8 => h9 (Option.some.inj h8))) h2
        have hl1 : 1 < l.length := by
          rcases Nat.lt_or_ge 1 l.length with h9 | h9
          · exact h9
          · exact absurd (.inl (by omega)) h2
        simp -implicitDefEqProofs only [evr, id, reduceCtorEq, reduceIte, Nat.reduceMul, Nat.reduceAdd, Nat.reduceLT, Nat.reduceLeDiff, Nat.reduceEqDiff, Int.reduceLT, Int.reduceBEq, Int.reduceBNe, Nat.reduceBEq, mkB_toList, emp_toList, q3, q4, q5, evn]
        rw [byte_at l 0 c hc, h48]
        refine ⟨⟨by omega, by rw [mkB_size]; omega⟩, fun h9 => ?_, fun h9 => absurd h9 (by decide)⟩
        have e9 : decide (1 < ((mkB l).size : Int)) = true := decide_eq_true (by rw [mkB_size]; omega)
        refine hk _ ?_
        simp only [e9]
        simp -implicitDefEqProofs only [evr, id, reduceCtorEq, reduceIte, Nat.reduceMul, Nat.reduceAdd, Nat.reduceLT, Nat.reduceLeDiff, Nat.reduceEqDiff, Int.reduceLT, Int.reduceBEq, Int.reduceBNe, Nat.reduceBEq, evl, evn]
      · have q4 : (Lib.trimS l digSet != []) = true := by rw [bne_iff_ne]; exact q3
        have q5 : (!(Lib.trimS l digSet == [])) = true := q4
        simp -implicitDefEqProofs only [evr, id, reduceCtorEq, reduceIte, Nat.reduceMul, Nat.reduceAdd, Nat.reduceLT, Nat.reduceLeDiff, Nat.reduceEqDiff, Int.reduceLT, Int.reduceBEq, Int.reduceBNe, Nat.reduceBEq, mkB_toList, emp_toList, q4, q5, evn]
        refine hk _ ?_
        simp -implicitDefEqProofs only [evr, id, reduceCtorEq, reduceIte, Nat.reduceMul, Nat.reduceAdd, Nat.reduceLT, Nat.reduceLeDiff, Nat.reduceEqDiff, Int.reduceLT, Int.reduceBEq, Int.reduceBNe, Nat.reduceBEq, evl, evn]
  simp only [thenK]
  refine Sat.cond_b rfl (fun _ => ?_) (fun h => absurd h (by decide))
  (repeat refine Sat.seq ?_)
  (refine Sat.region_k fun k hk => ?_; simp -implicitDefEqProofs only [evr, id, reduceCtorEq, reduceIte, Nat.reduceMul, Nat.reduceAdd, Nat.reduceLT, Nat.reduceLeDiff, Nat.reduceEqDiff, Int.reduceLT, Int.reduceBEq, Int.reduceBNe, Nat.reduceBEq, evn]; refine hk _ ?_; clear hk k; try show Sat _ _ _ _ _)
  refine Sat.ret ?_
  simp only [Tryz.results33, evr, id, reduceCtorEq, reduceIte, Nat.reduceMul, Nat.reduceAdd, Nat.reduceLT, Nat.reduceLeDiff, Nat.reduceEqDiff, Int.reduceLT, Int.reduceBEq, Int.reduceBNe, Nat.reduceBEq, List.append_nil, Int.toNat_zero, Nat.sub_self]
  exact ⟨_, rfl, Nats.nil⟩
theorem natParseC (F : Frm) (l : List UInt8) (hbig : l.length ≤ 100000) : Contract F Tryz.prog 33 [sB l] (numRes (parE l) (parV l)) := by
  cases h : digB l with
  | true => exact natParseOkC F l h hbig
  | false =>
    have h1 := parE_form h
    rw [parV, h1]
    exact natParseBadC F l h hbig
end Tq
end Go.Proofs.YtabgkfjfmjdfiaaGreatDoor


/- Valid of any list of ints, the program's and the reference's; the reference's Int. -/
namespace Go.Proofs.YtabgkfjfmjdfiaaGreatDoor
open Eng Lmb Go.RowKit
def limbB (x : Int) : Bool := decide (0 ≤ x) && decide (x < 1073741824)
def okL (xs : List Int) : Bool := xs.all limbB && (decide (xs.length ≤ 256) && (decide (xs.length = 0) || decide (xs.getD (xs.length - 1) 0 ≠ 0)))
theorem limbB_neg {x : Int} (h : x < 0) : (!limbB x) = true := by unfold limbB; simp; omega
theorem limbB_pos {x : Int} (h : ¬ x < 0) : decide (1073741824 ≤ x) = (!limbB x) := by
  unfold limbB
  apply Bool.eq_iff_iff.2
  simp
  omega
theorem okL_bad {xs : List Int} {q : Nat} (hq : q < xs.length) (h : (!limbB (xs.getD q 0)) = true) : okL xs = false := by
  have hm : xs.getD q 0 ∈ xs := by rw [List.getD_eq_getElem?_getD, List.getElem?_eq_getElem hq]; exact List.getElem_mem _
  unfold okL
  have h2 : xs.all limbB = false := by
    apply Bool.eq_false_iff.2
    intro h3
    have := List.all_eq_true.1 h3 _ hm
    rw [this] at h
    cases h
  rw [h2]; rfl
theorem all_next {xs : List Int} {q : Nat} (hq : q < xs.length) (h : (xs.take q).all limbB = true) (h2 : (!limbB (xs.getD q 0)) = false) : (xs.take (q + 1)).all limbB = true := by
  have e : xs.take (q + 1) = xs.take q ++ [xs.getD q 0] := by
    rw [List.take_add_one, List.getElem?_eq_getElem hq, List.getD_eq_getElem?_getD, List.getElem?_eq_getElem hq]; rfl
  rw [e, List.all_append, h]
  simpa using h2
set_option maxRecDepth 100000 in
theorem natValidLC (F : Frm) {s : SV} {xs : List Int} (hi1 : Ints s xs) (hl : xs.length ≤ 100000) : Contract F Tryz.prog 35 [s] (fun r => r = .b (okL xs)) := by
  obtain ⟨a1, c1, z1, r1, rfl, hz1, hr1⟩ := hi1
  refine contract_of Tryz.func35 rfl (by kernel_rfl) ?_
  simp only [Tryz.ntmps35, argEnv]
  (repeat refine Sat.seq ?_)
  (refine Sat.region_k fun k hk => ?_; simp -implicitDefEqProofs only [evr, id, reduceCtorEq, reduceIte, Nat.reduceMul, Nat.reduceAdd, Nat.reduceLT, Nat.reduceLeDiff, Nat.reduceEqDiff, Int.reduceLT, Int.reduceBEq, Int.reduceBNe, Nat.reduceBEq, frS, evn]; refine hk _ ?_; clear hk k; try show Sat _ _ _ _ _)
  (repeat refine Sat.seq ?_)
  (refine Sat.region_k fun k hk => ?_; simp -implicitDefEqProofs only [evr, id, reduceCtorEq, reduceIte, Nat.reduceMul, Nat.reduceAdd, Nat.reduceLT, Nat.reduceLeDiff, Nat.reduceEqDiff, Int.reduceLT, Int.reduceBEq, Int.reduceBNe, Nat.reduceBEq, frS, evn]; refine hk _ ?_; clear hk k; try show Sat _ _ _ _ _)
  (repeat refine Sat.seq ?_)
  refine Sat.block ?_
  (repeat refine Sat.seq ?_)
  refine Sat.loop (ι := Nat) (fun q => ⟨35, [(7, .i .i64 (q : Int)), (6, .i .i64 (xs.length : Nat)), (5, .sl a1 xs.length c1 z1 r1), (0, .sl a1 xs.length c1 z1 r1)], []⟩)
    (fun q => q ≤ xs.length ∧ (xs.take q).all limbB = true) (fun q => xs.length - q) 0 ⟨Nat.zero_le _, rfl⟩ (by simp -implicitDefEqProofs only [evr, id, reduceCtorEq, reduceIte, Nat.reduceMul, Nat.reduceAdd, Nat.reduceLT, Nat.reduceLeDiff, Nat.reduceEqDiff, Int.reduceLT, Int.reduceBEq, Int.reduceBNe, Nat.reduceBEq, frS, evl, evn]; try rfl) ?_
  rintro q ⟨hq, hall⟩
  (repeat refine Sat.seq ?_)
  (refine Sat.region_k fun k hk => ?_; simp -implicitDefEqProofs only [evr, id, reduceCtorEq, reduceIte, Nat.reduceMul, Nat.reduceAdd, Nat.reduceLT, Nat.reduceLeDiff, Nat.reduceEqDiff, Int.reduceLT, Int.reduceBEq, Int.reduceBNe, Nat.reduceBEq, frS, evn]; refine hk _ ?_; clear hk k; try show Sat _ _ _ _ _)
  (repeat refine Sat.seq ?_)
  refine Sat.cond_b rfl (fun h => ?_) (fun h => ?_)
  · simp only [decide_eq_true_eq] at h
    have hj : q < xs.length := by omega
    have hsz1 : z1 = 1 := hz1.resolve_left (by omega)
    subst hsz1
    have g1 := hr1 q hj
    have ej1 : IntKind.i64.wrap ((q : Int) + 1) = ((q + 1 : Nat) : Int) := by rw [w64 (by omega)]; omega
    refine Sat.skip ?_
    simp only [thenK]
    (repeat refine Sat.seq ?_)
    refine Sat.block ?_
    (repeat refine Sat.seq ?_)
    (refine Sat.region_k fun k hk => ?_; simp -implicitDefEqProofs only [evr, id, reduceCtorEq, reduceIte, Nat.reduceMul, Nat.reduceAdd, Nat.reduceLT, Nat.reduceLeDiff, Nat.reduceEqDiff, Int.reduceLT, Int.reduceBEq, Int.reduceBNe, Nat.reduceBEq, frS, evn])
    refine ⟨by omega, ?_⟩
    rw [g1]
    (refine hk _ ?_; clear hk k; try show Sat _ _ _ _ _)
    (repeat refine Sat.seq ?_)
    refine Sat.region_at ⟨35, [(16, .b (!limbB (xs.getD q 0))), (7, .i .i64 (q : Int)), (6, .i .i64 (xs.length : Nat)), (5, .sl a1 xs.length c1 1 r1), (0, .sl a1 xs.length c1 1 r1)], []⟩ (fun k hk => ?_) ?_
    · simp -implicitDefEqProofs only [evr, id, reduceCtorEq, reduceIte, Nat.reduceMul, Nat.reduceAdd, Nat.reduceLT, Nat.reduceLeDiff, Nat.reduceEqDiff, Int.reduceLT, Int.reduceBEq, Int.reduceBNe, Nat.reduceBEq, frS, evn]
      refine ⟨fun h9 => ?_, fun h9 => ?_⟩
      · refine hk _ ?_
        rw [limbB_neg h9]
        simp -implicitDefEqProofs only [evr, id, reduceCtorEq, reduceIte, Nat.reduceMul, Nat.reduceAdd, Nat.reduceLT, Nat.reduceLeDiff, Nat.reduceEqDiff, Int.reduceLT, Int.reduceBEq, Int.reduceBNe, Nat.reduceBEq, frS, evl, evn]
        try exact h9
      · refine hk _ ?_
        rw [limbB_pos h9]
        simp -implicitDefEqProofs only [evr, id, reduceCtorEq, reduceIte, Nat.reduceMul, Nat.reduceAdd, Nat.reduceLT, Nat.reduceLeDiff, Nat.reduceEqDiff, Int.reduceLT, Int.reduceBEq, Int.reduceBNe, Nat.reduceBEq, frS, evl, evn]
    simp only [thenK]
    refine Sat.cond_b rfl (fun h => ?_) (fun h => ?_)
    · (repeat refine Sat.seq ?_)
      (refine Sat.region_k fun k hk => ?_; simp -implicitDefEqProofs only [evr, id, reduceCtorEq, reduceIte, Nat.reduceMul, Nat.reduceAdd, Nat.reduceLT, Nat.reduceLeDiff, Nat.reduceEqDiff, Int.reduceLT, Int.reduceBEq, Int.reduceBNe, Nat.reduceBEq, frS, evn]; refine hk _ ?_; clear hk k; try show Sat _ _ _ _ _)
      refine Sat.ret ?_
      simp only [Tryz.results35, evr, id, reduceCtorEq, reduceIte, Nat.reduceMul, Nat.reduceAdd, Nat.reduceLT, Nat.reduceLeDiff, Nat.reduceEqDiff, Int.reduceLT, Int.reduceBEq, Int.reduceBNe, Nat.reduceBEq, List.append_nil, Int.toNat_zero, Nat.sub_self, frS]
      rw [okL_bad hj h]
    refine Sat.skip ?_
    simp only [thenK, blockK]
    (repeat refine Sat.seq ?_)
    refine Sat.region_k fun k hk => ?_
    simp -implicitDefEqProofs only [evr, id, reduceCtorEq, reduceIte, Nat.reduceMul, Nat.reduceAdd, Nat.reduceLT, Nat.reduceLeDiff, Nat.reduceEqDiff, Int.reduceLT, Int.reduceBEq, Int.reduceBNe, Nat.reduceBEq, frS, ej1, evn]
    refine hk _ ?_
    simp only [thenK, blockK]
    refine ⟨q + 1, ⟨by omega, all_next hj hall h⟩, by omega, ?_⟩
    simp -implicitDefEqProofs only [evr, id, reduceCtorEq, reduceIte, Nat.reduceMul, Nat.reduceAdd, Nat.reduceLT, Nat.reduceLeDiff, Nat.reduceEqDiff, Int.reduceLT, Int.reduceBEq, Int.reduceBNe, Nat.reduceBEq, frS, evl, evn]
  · have hqe : q = xs.length := by have := of_decide_eq_false h; omega
    rw [hqe, List.take_length] at hall
    have eO : okL xs = (decide (xs.length ≤ 256) && (decide (xs.length = 0) || decide (xs.getD (xs.length - 1) 0 ≠ 0))) := by unfold okL; rw [hall, Bool.true_and]
    refine Sat.exit ?_
    simp only [thenK, blockK, reduceIte]
    (repeat refine Sat.seq ?_)
    refine Sat.region_at ⟨35, [(2, .b (okL xs))], []⟩ (fun k hk => ?_) ?_
    · simp -implicitDefEqProofs only [evr, id, reduceCtorEq, reduceIte, Nat.reduceMul, Nat.reduceAdd, Nat.reduceLT, Nat.reduceLeDiff, Nat.reduceEqDiff, Int.reduceLT, Int.reduceBEq, Int.reduceBNe, Nat.reduceBEq, frS, evn]
      refine ⟨fun h9 => ⟨fun h8 => ?_, fun h8 => ?_⟩, fun h9 => ?_⟩
      · refine hk _ ?_
        have h7 : xs.length = 0 := by have := eq_of_beq h8; omega
        rw [eO, h7]
        simp -implicitDefEqProofs only [evr, id, reduceCtorEq, reduceIte, Nat.reduceMul, Nat.reduceAdd, Nat.reduceLT, Nat.reduceLeDiff, Nat.reduceEqDiff, Int.reduceLT, Int.reduceBEq, Int.reduceBNe, Nat.reduceBEq, frS, evl, evn]
        try exact h8
      · have h7 : ¬ (xs.length : Int) = 0 := by
          intro h6
          rw [h6] at h8
          cases h8
        have hsz1 : z1 = 1 := hz1.resolve_left (by omega)
        subst hsz1
        have e1 : IntKind.i64.wrap ((xs.length : Int) - 1) = ((xs.length - 1 : Nat) : Int) := by rw [w64 (by omega)]; omega
        rw [e1]
        refine ⟨by omega, ?_⟩
        rw [Int.toNat_natCast, hr1 _ (by omega)]
        simp -implicitDefEqProofs only [evr, id, reduceCtorEq, reduceIte, Nat.reduceMul, Nat.reduceAdd, Nat.reduceLT, Nat.reduceLeDiff, Nat.reduceEqDiff, Int.reduceLT, Int.reduceBEq, Int.reduceBNe, Nat.reduceBEq, frS, evn]
        refine hk _ ?_
        have e : okL xs = (xs.getD (xs.length - 1) 0 != 0) := by
          rw [eO, decide_eq_true (show xs.length ≤ 256 by omega), decide_eq_false (show ¬ xs.length = 0 by omega), Bool.true_and, Bool.false_or]
          apply Bool.eq_iff_iff.2
          rw [decide_eq_true_eq, bne_iff_ne]
        rw [e]
        simp -implicitDefEqProofs only [evr, id, reduceCtorEq, reduceIte, Nat.reduceMul, Nat.reduceAdd, Nat.reduceLT, Nat.reduceLeDiff, Nat.reduceEqDiff, Int.reduceLT, Int.reduceBEq, Int.reduceBNe, Nat.reduceBEq, frS, evl, evn]
        try rfl
      · refine hk _ ?_
        have e : okL xs = false := by rw [eO, decide_eq_false (show ¬ xs.length ≤ 256 by omega), Bool.false_and]
        rw [e]
        simp -implicitDefEqProofs only [evr, id, reduceCtorEq, reduceIte, Nat.reduceMul, Nat.reduceAdd, Nat.reduceLT, Nat.reduceLeDiff, Nat.reduceEqDiff, Int.reduceLT, Int.reduceBEq, Int.reduceBNe, Nat.reduceBEq, frS, evl, evn]
        try exact h9
    simp only [thenK]
    refine Sat.ret ?_
    simp only [Tryz.results35, evr, id, reduceCtorEq, reduceIte, Nat.reduceMul, Nat.reduceAdd, Nat.reduceLT, Nat.reduceLeDiff, Nat.reduceEqDiff, Int.reduceLT, Int.reduceBEq, Int.reduceBNe, Nat.reduceBEq, List.append_nil, Int.toNat_zero, Nat.sub_self, frS]
set_option maxRecDepth 100000 in
theorem refValidLC (F : Frm) {s : SV} {xs : List Int} (hi1 : Ints s xs) (hl : xs.length ≤ 100000) : Contract F Tryz.prog 36 [s] (fun r => r = .b (okL xs)) := by
  obtain ⟨a1, c1, z1, r1, rfl, hz1, hr1⟩ := hi1
  refine contract_of Tryz.func36 rfl (by kernel_rfl) ?_
  simp only [Tryz.ntmps36, argEnv]
  (repeat refine Sat.seq ?_)
  (refine Sat.region_k fun k hk => ?_; simp -implicitDefEqProofs only [evr, id, reduceCtorEq, reduceIte, Nat.reduceMul, Nat.reduceAdd, Nat.reduceLT, Nat.reduceLeDiff, Nat.reduceEqDiff, Int.reduceLT, Int.reduceBEq, Int.reduceBNe, Nat.reduceBEq, frS, evn]; refine hk _ ?_; clear hk k; try show Sat _ _ _ _ _)
  (repeat refine Sat.seq ?_)
  (refine Sat.region_k fun k hk => ?_; simp -implicitDefEqProofs only [evr, id, reduceCtorEq, reduceIte, Nat.reduceMul, Nat.reduceAdd, Nat.reduceLT, Nat.reduceLeDiff, Nat.reduceEqDiff, Int.reduceLT, Int.reduceBEq, Int.reduceBNe, Nat.reduceBEq, frS, evn]; refine hk _ ?_; clear hk k; try show Sat _ _ _ _ _)
  (repeat refine Sat.seq ?_)
  refine Sat.block ?_
  (repeat refine Sat.seq ?_)
  refine Sat.loop (ι := Nat) (fun q => ⟨39, [(3, .i .i64 (q : Int)), (0, .sl a1 xs.length c1 z1 r1)], []⟩)
    (fun q => q ≤ xs.length ∧ (xs.take q).all limbB = true) (fun q => xs.length - q) 0 ⟨Nat.zero_le _, rfl⟩ (by simp -implicitDefEqProofs only [evr, id, reduceCtorEq, reduceIte, Nat.reduceMul, Nat.reduceAdd, Nat.reduceLT, Nat.reduceLeDiff, Nat.reduceEqDiff, Int.reduceLT, Int.reduceBEq, Int.reduceBNe, Nat.reduceBEq, frS, evl, evn]; try rfl) ?_
  rintro q ⟨hq, hall⟩
  (repeat refine Sat.seq ?_)
  (refine Sat.region_k fun k hk => ?_; simp -implicitDefEqProofs only [evr, id, reduceCtorEq, reduceIte, Nat.reduceMul, Nat.reduceAdd, Nat.reduceLT, Nat.reduceLeDiff, Nat.reduceEqDiff, Int.reduceLT, Int.reduceBEq, Int.reduceBNe, Nat.reduceBEq, frS, evn]; refine hk _ ?_; clear hk k; try show Sat _ _ _ _ _)
  (repeat refine Sat.seq ?_)
  refine Sat.cond_b rfl (fun h => ?_) (fun h => ?_)
  · simp only [decide_eq_true_eq] at h
    have hj : q < xs.length := by omega
    have hsz1 : z1 = 1 := hz1.resolve_left (by omega)
    subst hsz1
    have g1 := hr1 q hj
    have ej1 : IntKind.i64.wrap ((q : Int) + 1) = ((q + 1 : Nat) : Int) := by rw [w64 (by omega)]; omega
    refine Sat.skip ?_
    simp only [thenK]
    (repeat refine Sat.seq ?_)
    refine Sat.block ?_
    (repeat refine Sat.seq ?_)
    refine Sat.region_at ⟨39, [(21, .b (!limbB (xs.getD q 0))), (3, .i .i64 (q : Int)), (0, .sl a1 xs.length c1 1 r1)], []⟩ (fun k hk => ?_) ?_
    · simp -implicitDefEqProofs only [evr, id, reduceCtorEq, reduceIte, Nat.reduceMul, Nat.reduceAdd, Nat.reduceLT, Nat.reduceLeDiff, Nat.reduceEqDiff, Int.reduceLT, Int.reduceBEq, Int.reduceBNe, Nat.reduceBEq, frS, evn]
      refine ⟨by omega, ?_⟩
      rw [g1]
      simp -implicitDefEqProofs only [evr, id, reduceCtorEq, reduceIte, Nat.reduceMul, Nat.reduceAdd, Nat.reduceLT, Nat.reduceLeDiff, Nat.reduceEqDiff, Int.reduceLT, Int.reduceBEq, Int.reduceBNe, Nat.reduceBEq, frS, evn]
      refine ⟨fun h9 => ?_, fun h9 => ?_⟩
      · refine hk _ ?_
        rw [limbB_neg h9]
        simp -implicitDefEqProofs only [evr, id, reduceCtorEq, reduceIte, Nat.reduceMul, Nat.reduceAdd, Nat.reduceLT, Nat.reduceLeDiff, Nat.reduceEqDiff, Int.reduceLT, Int.reduceBEq, Int.reduceBNe, Nat.reduceBEq, frS, evl, evn]
        try exact h9
      · refine ⟨by omega, ?_⟩
        try rw [g1]
        try simp -implicitDefEqProofs only [evr, id, reduceCtorEq, reduceIte, Nat.reduceMul, Nat.reduceAdd, Nat.reduceLT, Nat.reduceLeDiff, Nat.reduceEqDiff, Int.reduceLT, Int.reduceBEq, Int.reduceBNe, Nat.reduceBEq, frS, evn]
        refine hk _ ?_
        rw [limbB_pos h9]
        simp -implicitDefEqProofs only [evr, id, reduceCtorEq, reduceIte, Nat.reduceMul, Nat.reduceAdd, Nat.reduceLT, Nat.reduceLeDiff, Nat.reduceEqDiff, Int.reduceLT, Int.reduceBEq, Int.reduceBNe, Nat.reduceBEq, frS, evl, evn]
    simp only [thenK]
    refine Sat.cond_b rfl (fun h => ?_) (fun h => ?_)
    · (repeat refine Sat.seq ?_)
      (refine Sat.region_k fun k hk => ?_; simp -implicitDefEqProofs only [evr, id, reduceCtorEq, reduceIte, Nat.reduceMul, Nat.reduceAdd, Nat.reduceLT, Nat.reduceLeDiff, Nat.reduceEqDiff, Int.reduceLT, Int.reduceBEq, Int.reduceBNe, Nat.reduceBEq, frS, evn]; refine hk _ ?_; clear hk k; try show Sat _ _ _ _ _)
      refine Sat.ret ?_
      simp only [Tryz.results36, evr, id, reduceCtorEq, reduceIte, Nat.reduceMul, Nat.reduceAdd, Nat.reduceLT, Nat.reduceLeDiff, Nat.reduceEqDiff, Int.reduceLT, Int.reduceBEq, Int.reduceBNe, Nat.reduceBEq, List.append_nil, Int.toNat_zero, Nat.sub_self, frS]
      rw [okL_bad hj h]
    refine Sat.skip ?_
    simp only [thenK, blockK]
    (repeat refine Sat.seq ?_)
    refine Sat.region_k fun k hk => ?_
    simp -implicitDefEqProofs only [evr, id, reduceCtorEq, reduceIte, Nat.reduceMul, Nat.reduceAdd, Nat.reduceLT, Nat.reduceLeDiff, Nat.reduceEqDiff, Int.reduceLT, Int.reduceBEq, Int.reduceBNe, Nat.reduceBEq, frS, ej1, evn]
    refine hk _ ?_
    simp only [thenK, blockK]
    refine ⟨q + 1, ⟨by omega, all_next hj hall h⟩, by omega, ?_⟩
    simp -implicitDefEqProofs only [evr, id, reduceCtorEq, reduceIte, Nat.reduceMul, Nat.reduceAdd, Nat.reduceLT, Nat.reduceLeDiff, Nat.reduceEqDiff, Int.reduceLT, Int.reduceBEq, Int.reduceBNe, Nat.reduceBEq, frS, evl, evn]
  · have hqe : q = xs.length := by have := of_decide_eq_false h; omega
    rw [hqe, List.take_length] at hall
    have eO : okL xs = (decide (xs.length ≤ 256) && (decide (xs.length = 0) || decide (xs.getD (xs.length - 1) 0 ≠ 0))) := by unfold okL; rw [hall, Bool.true_and]
    refine Sat.exit ?_
    simp only [thenK, blockK, reduceIte]
    (repeat refine Sat.seq ?_)
    refine Sat.region_at ⟨39, [(2, .b (okL xs))], []⟩ (fun k hk => ?_) ?_
    · simp -implicitDefEqProofs only [evr, id, reduceCtorEq, reduceIte, Nat.reduceMul, Nat.reduceAdd, Nat.reduceLT, Nat.reduceLeDiff, Nat.reduceEqDiff, Int.reduceLT, Int.reduceBEq, Int.reduceBNe, Nat.reduceBEq, frS, evn]
      refine ⟨fun h9 => ⟨fun h8 => ?_, fun h8 => ?_⟩, fun h9 => ?_⟩
      · refine hk _ ?_
        have h7 : xs.length = 0 := by have := eq_of_beq h8; omega
        rw [eO, h7]
        simp -implicitDefEqProofs only [evr, id, reduceCtorEq, reduceIte, Nat.reduceMul, Nat.reduceAdd, Nat.reduceLT, Nat.reduceLeDiff, Nat.reduceEqDiff, Int.reduceLT, Int.reduceBEq, Int.reduceBNe, Nat.reduceBEq, frS, evl, evn]
        try exact h8
      · have h7 : ¬ (xs.length : Int) = 0 := by
          intro h6
          rw [h6] at h8
          cases h8
        have hsz1 : z1 = 1 := hz1.resolve_left (by omega)
        subst hsz1
        have e1 : IntKind.i64.wrap ((xs.length : Int) - 1) = ((xs.length - 1 : Nat) : Int) := by rw [w64 (by omega)]; omega
        rw [e1]
        refine ⟨by omega, ?_⟩
        rw [Int.toNat_natCast, hr1 _ (by omega)]
        simp -implicitDefEqProofs only [evr, id, reduceCtorEq, reduceIte, Nat.reduceMul, Nat.reduceAdd, Nat.reduceLT, Nat.reduceLeDiff, Nat.reduceEqDiff, Int.reduceLT, Int.reduceBEq, Int.reduceBNe, Nat.reduceBEq, frS, evn]
        refine hk _ ?_
        have e : okL xs = (xs.getD (xs.length - 1) 0 != 0) := by
          rw [eO, decide_eq_true (show xs.length ≤ 256 by omega), decide_eq_false (show ¬ xs.length = 0 by omega), Bool.true_and, Bool.false_or]
          apply Bool.eq_iff_iff.2
          rw [decide_eq_true_eq, bne_iff_ne]
        rw [e]
        simp -implicitDefEqProofs only [evr, id, reduceCtorEq, reduceIte, Nat.reduceMul, Nat.reduceAdd, Nat.reduceLT, Nat.reduceLeDiff, Nat.reduceEqDiff, Int.reduceLT, Int.reduceBEq, Int.reduceBNe, Nat.reduceBEq, frS, evl, evn]
        try rfl
      · refine hk _ ?_
        have e : okL xs = false := by rw [eO, decide_eq_false (show ¬ xs.length ≤ 256 by omega), Bool.false_and]
        rw [e]
        simp -implicitDefEqProofs only [evr, id, reduceCtorEq, reduceIte, Nat.reduceMul, Nat.reduceAdd, Nat.reduceLT, Nat.reduceLeDiff, Nat.reduceEqDiff, Int.reduceLT, Int.reduceBEq, Int.reduceBNe, Nat.reduceBEq, frS, evl, evn]
        try exact h9
    simp only [thenK]
    refine Sat.ret ?_
    simp only [Tryz.results36, evr, id, reduceCtorEq, reduceIte, Nat.reduceMul, Nat.reduceAdd, Nat.reduceLT, Nat.reduceLeDiff, Nat.reduceEqDiff, Int.reduceLT, Int.reduceBEq, Int.reduceBNe, Nat.reduceBEq, List.append_nil, Int.toNat_zero, Nat.sub_self, frS]
set_option maxRecDepth 100000 in
theorem refIntC (F : Frm) {s : SV} {n : Nat} (hs : Nats s n) (hb : (n : Int) < pw 512) : Contract F Tryz.prog 32 [s] (fun r => r = tupL [.i .i64 (intV n), .i .i64 (intE n)]) := by
  have hs1 := hs
  obtain ⟨xs, hi1, d1⟩ := hs.ints
  have l1 := (d1.len_le 512).2 hb
  obtain ⟨a1, c1, z1, r1, rfl, hz1, hr1⟩ := hi1
  refine contract_of Tryz.func32 rfl (by kernel_rfl) ?_
  simp only [Tryz.ntmps32, argEnv]
  have e0 : IntKind.i64.wrap ((xs.length : Int) - 1) = (xs.length : Int) - 1 := w64 (by omega)
  (repeat refine Sat.seq ?_)
  (refine Sat.region_k fun k hk => ?_; simp -implicitDefEqProofs only [evr, id, reduceCtorEq, reduceIte, Nat.reduceMul, Nat.reduceAdd, Nat.reduceLT, Nat.reduceLeDiff, Nat.reduceEqDiff, Int.reduceLT, Int.reduceBEq, Int.reduceBNe, Nat.reduceBEq, frS, evn]; refine hk _ ?_; clear hk k; try show Sat _ _ _ _ _)
  (repeat refine Sat.seq ?_)
  (refine Sat.region_k fun k hk => ?_; simp -implicitDefEqProofs only [evr, id, reduceCtorEq, reduceIte, Nat.reduceMul, Nat.reduceAdd, Nat.reduceLT, Nat.reduceLeDiff, Nat.reduceEqDiff, Int.reduceLT, Int.reduceBEq, Int.reduceBNe, Nat.reduceBEq, frS, evn])
  refine wcall_slice (refWordC F 4611686018427387904 (by decide)) rfl rfl ?_
  intro y hy
  have hy1 := hy
  obtain ⟨a2, c2, z2, r2, x2, rfl, _⟩ := hy
  simp -implicitDefEqProofs only [evr, id, reduceCtorEq, reduceIte, Nat.reduceMul, Nat.reduceAdd, Nat.reduceLT, Nat.reduceLeDiff, Nat.reduceEqDiff, Int.reduceLT, Int.reduceBEq, Int.reduceBNe, Nat.reduceBEq, frS, evn]
  refine wcall_plain (refCompareC F hs1 hy1 hb) rfl (by rintro _ rfl; exact ok_plain rfl) ?_
  rintro _ rfl
  simp -implicitDefEqProofs only [evr, id, reduceCtorEq, reduceIte, Nat.reduceMul, Nat.reduceAdd, Nat.reduceLT, Nat.reduceLeDiff, Nat.reduceEqDiff, Int.reduceLT, Int.reduceBEq, Int.reduceBNe, Nat.reduceBEq, frS, evn]
  (refine hk _ ?_; clear hk k; try show Sat _ _ _ _ _)
  refine Sat.cond_b rfl (fun h => ?_) (fun h => ?_)
  · have h9 := of_decide_eq_true h
    have hbig : ¬ n ≤ 4611686018427387904 := by
      intro h8
      rcases Nat.lt_or_ge n 4611686018427387904 with h7 | h7
      · rw [cmpI_lt (by omega)] at h9; omega
      · rw [cmpI_eq (by omega)] at h9; omega
    (repeat refine Sat.seq ?_)
    (refine Sat.region_k fun k hk => ?_; simp -implicitDefEqProofs only [evr, id, reduceCtorEq, reduceIte, Nat.reduceMul, Nat.reduceAdd, Nat.reduceLT, Nat.reduceLeDiff, Nat.reduceEqDiff, Int.reduceLT, Int.reduceBEq, Int.reduceBNe, Nat.reduceBEq, frS, evn]; refine hk _ ?_; clear hk k; try show Sat _ _ _ _ _)
    refine Sat.ret ?_
    simp only [Tryz.results32, evr, id, reduceCtorEq, reduceIte, Nat.reduceMul, Nat.reduceAdd, Nat.reduceLT, Nat.reduceLeDiff, Nat.reduceEqDiff, Int.reduceLT, Int.reduceBEq, Int.reduceBNe, Nat.reduceBEq, List.append_nil, Int.toNat_zero, Nat.sub_self, frS]
    unfold intV intE
    rw [if_neg hbig, if_neg hbig]
  have h9 := of_decide_eq_false h
  have hsm : n ≤ 4611686018427387904 := by
    rcases Nat.lt_or_ge 4611686018427387904 n with h7 | h7
    · rw [cmpI_gt (by omega)] at h9; omega
    · exact h7
  refine Sat.skip ?_
  simp only [thenK]
  (repeat refine Sat.seq ?_)
  (refine Sat.region_k fun k hk => ?_; simp -implicitDefEqProofs only [evr, id, reduceCtorEq, reduceIte, Nat.reduceMul, Nat.reduceAdd, Nat.reduceLT, Nat.reduceLeDiff, Nat.reduceEqDiff, Int.reduceLT, Int.reduceBEq, Int.reduceBNe, Nat.reduceBEq, frS, evn]; refine hk _ ?_; clear hk k; try show Sat _ _ _ _ _)
  (repeat refine Sat.seq ?_)
  refine Sat.region_k fun k hk => ?_
  simp -implicitDefEqProofs only [evr, id, reduceCtorEq, reduceIte, Nat.reduceMul, Nat.reduceAdd, Nat.reduceLT, Nat.reduceLeDiff, Nat.reduceEqDiff, Int.reduceLT, Int.reduceBEq, Int.reduceBNe, Nat.reduceBEq, frS, e0, evn]
  (refine hk _ ?_; clear hk k; try show Sat _ _ _ _ _)
  (repeat refine Sat.seq ?_)
  refine Sat.block ?_
  (repeat refine Sat.seq ?_)
  refine Sat.loop (ι := Nat) (fun q => ⟨25, [(5, .i .i64 ((q : Int) - 1)), (4, .i .i64 (val (xs.drop q))), (0, .sl a1 xs.length c1 z1 r1)], []⟩)
    (fun q => q ≤ xs.length) (fun q => q) xs.length (Nat.le_refl _) (by rw [List.drop_length]; simp -implicitDefEqProofs only [evr, id, reduceCtorEq, reduceIte, Nat.reduceMul, Nat.reduceAdd, Nat.reduceLT, Nat.reduceLeDiff, Nat.reduceEqDiff, Int.reduceLT, Int.reduceBEq, Int.reduceBNe, Nat.reduceBEq, frS, evl, evn]; try rfl) ?_
  rintro q hq
  have hv0 : 0 ≤ val (xs.drop q) := val_nonneg fun x hx => d1.limbs x (List.mem_of_mem_drop hx)
  have hvle := val_drop_le d1.limbs q
  rw [d1.val] at hvle
  (repeat refine Sat.seq ?_)
  (refine Sat.region_k fun k hk => ?_; simp -implicitDefEqProofs only [evr, id, reduceCtorEq, reduceIte, Nat.reduceMul, Nat.reduceAdd, Nat.reduceLT, Nat.reduceLeDiff, Nat.reduceEqDiff, Int.reduceLT, Int.reduceBEq, Int.reduceBNe, Nat.reduceBEq, frS, evn]; refine hk _ ?_; clear hk k; try show Sat _ _ _ _ _)
  (repeat refine Sat.seq ?_)
  refine Sat.cond_b rfl (fun h => ?_) (fun h => ?_)
  · simp only [decide_eq_true_eq] at h
    obtain ⟨j, rfl⟩ : ∃ j, q = j + 1 := ⟨q - 1, by omega⟩
    have hj : j < xs.length := by omega
    have ej : (((j + 1 : Nat) : Int) - 1) = (j : Int) := by omega
    have ej2 : IntKind.i64.wrap ((j : Int) - 1) = (j : Int) - 1 := w64 (by omega)
    have hsz1 : z1 = 1 := hz1.resolve_left (by omega)
    subst hsz1
    have g1 := hr1 j hj
    have bx := limbs_getD d1.limbs j
    have hd := val_drop xs j hj
    have hle := val_drop_le d1.limbs j
    rw [d1.val] at hle
    generalize val (xs.drop (j + 1)) = v at hv0 hd
    generalize hx : xs.getD j 0 = x at g1 bx hd
    have w3 : IntKind.i64.wrap (v * 1073741824) = v * 1073741824 := w64 (by omega)
    have w4 : IntKind.i64.wrap (v * 1073741824 + x) = v * 1073741824 + x := w64 (by omega)
    refine Sat.skip ?_
    simp only [thenK, ej]
    (repeat refine Sat.seq ?_)
    refine Sat.block ?_
    (repeat refine Sat.seq ?_)
    refine Sat.region_k fun k hk => ?_
    simp -implicitDefEqProofs only [evr, id, reduceCtorEq, reduceIte, Nat.reduceMul, Nat.reduceAdd, Nat.reduceLT, Nat.reduceLeDiff, Nat.reduceEqDiff, Int.reduceLT, Int.reduceBEq, Int.reduceBNe, Nat.reduceBEq, frS, evn]
    refine ⟨by omega, ?_⟩
    rw [g1]
    simp -implicitDefEqProofs only [evr, id, reduceCtorEq, reduceIte, Nat.reduceMul, Nat.reduceAdd, Nat.reduceLT, Nat.reduceLeDiff, Nat.reduceEqDiff, Int.reduceLT, Int.reduceBEq, Int.reduceBNe, Nat.reduceBEq, frS, w3, w4, evn]
    refine hk _ ?_
    clear hk k
    simp only [thenK, blockK]
    (repeat refine Sat.seq ?_)
    refine Sat.region_k fun k hk => ?_
    simp -implicitDefEqProofs only [evr, id, reduceCtorEq, reduceIte, Nat.reduceMul, Nat.reduceAdd, Nat.reduceLT, Nat.reduceLeDiff, Nat.reduceEqDiff, Int.reduceLT, Int.reduceBEq, Int.reduceBNe, Nat.reduceBEq, frS, ej2, evn]
    refine hk _ ?_
    simp only [thenK, blockK]
    refine ⟨j, by show j ≤ xs.length; omega, by show j < j + 1; omega, ?_⟩
    simp -implicitDefEqProofs only [evr, id, reduceCtorEq, reduceIte, Nat.reduceMul, Nat.reduceAdd, Nat.reduceLT, Nat.reduceLeDiff, Nat.reduceEqDiff, Int.reduceLT, Int.reduceBEq, Int.reduceBNe, Nat.reduceBEq, frS, evl, evn]
    omega
  · simp only [decide_eq_false_iff_not] at h
    obtain rfl : q = 0 := by omega
    refine Sat.exit ?_
    simp only [thenK, blockK, reduceIte]
    (repeat refine Sat.seq ?_)
    (refine Sat.region_k fun k hk => ?_; simp -implicitDefEqProofs only [evr, id, reduceCtorEq, reduceIte, Nat.reduceMul, Nat.reduceAdd, Nat.reduceLT, Nat.reduceLeDiff, Nat.reduceEqDiff, Int.reduceLT, Int.reduceBEq, Int.reduceBNe, Nat.reduceBEq, frS, evn]; refine hk _ ?_; clear hk k; try show Sat _ _ _ _ _)
    refine Sat.ret ?_
    simp only [Tryz.results32, evr, id, reduceCtorEq, reduceIte, Nat.reduceMul, Nat.reduceAdd, Nat.reduceLT, Nat.reduceLeDiff, Nat.reduceEqDiff, Int.reduceLT, Int.reduceBEq, Int.reduceBNe, Nat.reduceBEq, List.append_nil, Int.toNat_zero, Nat.sub_self, frS]
    unfold intV intE
    rw [if_pos hsm, if_pos hsm, d1.val]
end Go.Proofs.YtabgkfjfmjdfiaaGreatDoor


/- Package natural, for the evaluator: Choose, Pow. -/
namespace Go.Proofs.YtabgkfjfmjdfiaaGreatDoor
open Eng Lmb Go.RowKit
section
variable (F : Frm) {sa sb : SV} {m n : Nat}
theorem chooseC (m n : Nat) (hm : m ≤ 1024) (hn : n ≤ 1024) : Contract F Tryz.prog 27 [.i .i64 m, .i .i64 n] (natRes (binom m n)) := by
  refine ofCalls Tryz.func27 rfl (by kernel_rfl) fun R w hargs hR => ?_
  refine (@Zn.choose_calls (zoneOf R w) m n w (Nat.le_refl _) hm hn).mono ?_
  rintro e w' ⟨v, rfl, hv, hbel⟩
  obtain ⟨s, rfl, hs, hok⟩ := nat_from hv
  exact ⟨tupL [s, .i .i64 0], rfl, ⟨s, rfl, hs⟩, tup2_ok hok trivial, hbel⟩
end
end Go.Proofs.YtabgkfjfmjdfiaaGreatDoor


/- Pow and Choose at any arguments, the program's and the reference's. -/
namespace Go.Proofs.YtabgkfjfmjdfiaaGreatDoor
open Eng Lmb Go.RowKit
theorem cmpI_zero {x y : Int} : (cmpI x y == 0) = decide (x = y) := by
  by_cases h : x < y
  · rw [cmpI_lt h, decide_eq_false (by omega)]; rfl
  · by_cases h2 : y < x
    · rw [cmpI_gt h2, decide_eq_false (by omega)]; rfl
    · rw [cmpI_eq (by omega), decide_eq_true (by omega)]; rfl
theorem nats_lit {a : Option Addr} {cap : Nat} {z : Int} {x : Nat} (e : z = x) (h1 : x < 1073741824) (h0 : 0 < x) : Nats (.sl a 1 cap 1 (rdL [SV.i .i64 z] 1)) x := by subst e; exact nats_one h0 h1
theorem natLong {a : Option Addr} {len cap sz n : Nat} {rd : Nat → Nat → SV} (h : Nats (.sl a len cap sz rd) n) : (256 < (len : Int)) ↔ ¬ (n : Int) < pw 256 := by
  obtain ⟨xs, ⟨a', c', z', r', e, _, _⟩, hd⟩ := h.ints
  simp only [SV.sl.injEq] at e
  obtain ⟨_, rfl, _⟩ := e
  have := hd.len_le 256
  constructor
  · intro h1 h2
    have := this.2 h2
    omega
  · intro h1
    rcases Nat.lt_or_ge 256 xs.length with h2 | h2
    · omega
    · exact absurd (this.1 h2) h1
set_option maxRecDepth 100000 in
theorem refPowKC (F : Frm) {sa : SV} {a k : Nat} (ha : Nats sa a) (ha2 : (a : Int) < pw 256) (hk : k ≤ 65536) : Contract F Tryz.prog 26 [sa, .i .i64 k] (numRes (limE (a ^ k)) (limV (a ^ k))) := by
  have ha' := ha
  obtain ⟨a1, c1, z1, r1, x1, rfl, _⟩ := ha
  have h256 : pw 256 ≤ pw 512 := pw_mono (by omega)
  refine contract_of Tryz.func26 rfl (by kernel_rfl) ?_
  simp only [Tryz.ntmps26, argEnv]
  (repeat refine Sat.seq ?_)
  (refine Sat.region_k fun k hk => ?_; simp -implicitDefEqProofs only [evr, id, reduceCtorEq, reduceIte, Nat.reduceMul, Nat.reduceAdd, Nat.reduceLT, Nat.reduceLeDiff, Nat.reduceEqDiff, Int.reduceLT, Int.reduceBEq, Int.reduceBNe, Nat.reduceBEq, frS, evn]; refine hk _ ?_; clear hk k; try show Sat _ _ _ _ _)
  (repeat refine Sat.seq ?_)
  refine Sat.region_at ⟨41, [(13, .b false), (0, .sl a1 x1.length c1 z1 r1), (1, .i .i64 k)], []⟩ (fun k' hk' => ?_) ?_
  · simp -implicitDefEqProofs only [evr, id, reduceCtorEq, reduceIte, Nat.reduceMul, Nat.reduceAdd, Nat.reduceLT, Nat.reduceLeDiff, Nat.reduceEqDiff, Int.reduceLT, Int.reduceBEq, Int.reduceBNe, Nat.reduceBEq, frS, evn]
    refine ⟨fun h => by omega, fun h => hk' _ ?_⟩
    have e : decide (65536 < (k : Int)) = false := by simp; omega
    simp only [e]
    simp -implicitDefEqProofs only [evr, id, reduceCtorEq, reduceIte, Nat.reduceMul, Nat.reduceAdd, Nat.reduceLT, Nat.reduceLeDiff, Nat.reduceEqDiff, Int.reduceLT, Int.reduceBEq, Int.reduceBNe, Nat.reduceBEq, frS, evl, evn]
  simp only [thenK]
  refine Sat.cond_b rfl (fun h => by cases h) (fun _ => ?_)
  refine Sat.skip ?_
  simp only [thenK]
  (repeat refine Sat.seq ?_)
  refine Sat.region_at ⟨41, [(26, .b (decide (0 < k) && (decide (a = 0) || decide (a = 1)))), (0, .sl a1 x1.length c1 z1 r1), (1, .i .i64 k)], []⟩ (fun k' hk' => ?_) ?_
  · simp -implicitDefEqProofs only [evr, id, reduceCtorEq, reduceIte, Nat.reduceMul, Nat.reduceAdd, Nat.reduceLT, Nat.reduceLeDiff, Nat.reduceEqDiff, Int.reduceLT, Int.reduceBEq, Int.reduceBNe, Nat.reduceBEq, frS, evn]
    refine ⟨fun h => ?_, fun h => ?_⟩
    · have h1 : decide (0 < k) = true := by rw [decide_eq_true_eq]; omega
      refine ⟨fun h2 => ?_, fun h2 => ?_⟩
      · rw [ha'.len0] at h2
        refine hk' _ ?_
        simp only [h1, h2, Bool.true_and, Bool.true_or]
        simp -implicitDefEqProofs only [evr, id, reduceCtorEq, reduceIte, Nat.reduceMul, Nat.reduceAdd, Nat.reduceLT, Nat.reduceLeDiff, Nat.reduceEqDiff, Int.reduceLT, Int.reduceBEq, Int.reduceBNe, Nat.reduceBEq, frS, evl, evn]
        try simp [ha'.len0, h2]
      · rw [ha'.len0] at h2
        intro az
        refine wcall_plain (refCompareC F ha' (nats_one (a := some ⟨az, 0, none⟩) (cap := 1) (x := 1) (by omega) (by omega)) (by omega)) (by simp -implicitDefEqProofs only [evr, id, reduceCtorEq, reduceIte, Nat.reduceMul, Nat.reduceAdd, Nat.reduceLT, Nat.reduceLeDiff, Nat.reduceEqDiff, Int.reduceLT, Int.reduceBEq, Int.reduceBNe, Nat.reduceBEq, frS, evn]; try rfl) (by rintro _ rfl; exact ok_plain rfl) ?_
        rintro r rfl
        simp -implicitDefEqProofs only [evr, id, reduceCtorEq, reduceIte, Nat.reduceMul, Nat.reduceAdd, Nat.reduceLT, Nat.reduceLeDiff, Nat.reduceEqDiff, Int.reduceLT, Int.reduceBEq, Int.reduceBNe, Nat.reduceBEq, frS, cmpI_zero, evn]
        refine hk' _ ?_
        have e3 : decide ((a : Int) = ((1 : Nat) : Int)) = decide (a = 1) := by
          by_cases h9 : a = 1
          · subst h9; rw [decide_eq_true rfl, decide_eq_true rfl]
          · rw [decide_eq_false h9, decide_eq_false (by omega)]
        simp only [h1, h2, e3, Bool.true_and, Bool.false_or]
        simp -implicitDefEqProofs only [evr, id, reduceCtorEq, reduceIte, Nat.reduceMul, Nat.reduceAdd, Nat.reduceLT, Nat.reduceLeDiff, Nat.reduceEqDiff, Int.reduceLT, Int.reduceBEq, Int.reduceBNe, Nat.reduceBEq, frS, evl, evn]
        try simp [ha'.len0, h2]
    · have h1 : decide (0 < k) = false := by rw [decide_eq_false_iff_not]; omega
      refine hk' _ ?_
      simp only [h1, Bool.false_and]
      simp -implicitDefEqProofs only [evr, id, reduceCtorEq, reduceIte, Nat.reduceMul, Nat.reduceAdd, Nat.reduceLT, Nat.reduceLeDiff, Nat.reduceEqDiff, Int.reduceLT, Int.reduceBEq, Int.reduceBNe, Nat.reduceBEq, frS, evl, evn]
      try simp [h]
  simp only [thenK]
  refine Sat.cond_b rfl (fun h => ?_) (fun h => ?_)
  · have e : a ^ k = a := by
      simp only [Bool.and_eq_true, Bool.or_eq_true, decide_eq_true_eq] at h
      obtain ⟨h1, rfl | rfl⟩ := h
      · exact Nat.zero_pow h1
      · exact Nat.one_pow k
    (repeat refine Sat.seq ?_)
    (refine Sat.region_k fun k hk => ?_; simp -implicitDefEqProofs only [evr, id, reduceCtorEq, reduceIte, Nat.reduceMul, Nat.reduceAdd, Nat.reduceLT, Nat.reduceLeDiff, Nat.reduceEqDiff, Int.reduceLT, Int.reduceBEq, Int.reduceBNe, Nat.reduceBEq, frS, evn]; refine hk _ ?_; clear hk k; try show Sat _ _ _ _ _)
    refine Sat.ret ?_
    simp only [Tryz.results26, evr, id, reduceCtorEq, reduceIte, Nat.reduceMul, Nat.reduceAdd, Nat.reduceLT, Nat.reduceLeDiff, Nat.reduceEqDiff, Int.reduceLT, Int.reduceBEq, Int.reduceBNe, Nat.reduceBEq, List.append_nil, Int.toNat_zero, Nat.sub_self, frS]
    rw [e, limE_ok ha2, limV_ok ha2]
    exact ⟨_, rfl, ha'⟩
  have ha3 : k = 0 ∨ 2 ≤ a := by
    simp only [Bool.and_eq_false_iff, Bool.or_eq_false_iff, decide_eq_false_iff_not] at h
    omega
  refine Sat.skip ?_
  simp only [thenK]
  (repeat refine Sat.seq ?_)
  (refine Sat.region_k fun k hk => ?_; simp -implicitDefEqProofs only [evr, id, reduceCtorEq, reduceIte, Nat.reduceMul, Nat.reduceAdd, Nat.reduceLT, Nat.reduceLeDiff, Nat.reduceEqDiff, Int.reduceLT, Int.reduceBEq, Int.reduceBNe, Nat.reduceBEq, frS, evn])
  intro az
  (refine hk _ ?_; clear hk k; try show Sat _ _ _ _ _)
  refine Sat.settle2 6 rfl rfl ?_
  simp -implicitDefEqProofs only [evr, id, reduceCtorEq, reduceIte, Nat.reduceMul, Nat.reduceAdd, Nat.reduceLT, Nat.reduceLeDiff, Nat.reduceEqDiff, Int.reduceLT, Int.reduceBEq, Int.reduceBNe, Nat.reduceBEq, frS, evn]
  (repeat refine Sat.seq ?_)
  (refine Sat.region_k fun k hk => ?_; simp -implicitDefEqProofs only [evr, id, reduceCtorEq, reduceIte, Nat.reduceMul, Nat.reduceAdd, Nat.reduceLT, Nat.reduceLeDiff, Nat.reduceEqDiff, Int.reduceLT, Int.reduceBEq, Int.reduceBNe, Nat.reduceBEq, frS, evn]; refine hk _ ?_; clear hk k; try show Sat _ _ _ _ _)
  (repeat refine Sat.seq ?_)
  refine Sat.block ?_
  refine Sat.loop (ι := Nat × SV) (fun x => ⟨41, [(7, .i .i64 x.1), (6, x.2), (0, .sl a1 x1.length c1 z1 r1), (1, .i .i64 k)], []⟩)
    (fun x => x.1 ≤ k ∧ Nats x.2 (a ^ x.1) ∧ ((a ^ x.1 : Nat) : Int) < pw 256) (fun x => k - x.1) (0, .sl (some ⟨az, 0, none⟩) 1 1 1 (rdL [SV.i .i64 1] 1)) ⟨Nat.zero_le _, nats_one (x := 1) (by omega) (by omega), by rw [Nat.pow_zero]; exact lt_pw (a := 1) (by decide) (by decide)⟩ (by simp -implicitDefEqProofs only [evr, id, reduceCtorEq, reduceIte, Nat.reduceMul, Nat.reduceAdd, Nat.reduceLT, Nat.reduceLeDiff, Nat.reduceEqDiff, Int.reduceLT, Int.reduceBEq, Int.reduceBNe, Nat.reduceBEq, frS, evl, evn]; try rfl) ?_
  rintro ⟨i, so⟩ ⟨hi, hso, bi⟩
  simp only at hi hso bi ⊢
  have hso' := hso
  obtain ⟨a3, c3, z3, r3, x3, rfl, _⟩ := hso
  (repeat refine Sat.seq ?_)
  (refine Sat.region_k fun k hk => ?_; simp -implicitDefEqProofs only [evr, id, reduceCtorEq, reduceIte, Nat.reduceMul, Nat.reduceAdd, Nat.reduceLT, Nat.reduceLeDiff, Nat.reduceEqDiff, Int.reduceLT, Int.reduceBEq, Int.reduceBNe, Nat.reduceBEq, frS, evn]; refine hk _ ?_; clear hk k; try show Sat _ _ _ _ _)
  (repeat refine Sat.seq ?_)
  refine Sat.cond_b rfl (fun h => ?_) (fun h => ?_)
  · simp only [decide_eq_true_eq] at h
    have hik : i < k := by omega
    have ei1 : IntKind.i64.wrap ((i : Int) + 1) = ((i + 1 : Nat) : Int) := by rw [w64 (by omega)]; omega
    refine Sat.skip ?_
    simp only [thenK]
    (repeat refine Sat.seq ?_)
    refine Sat.block ?_
    (repeat refine Sat.seq ?_)
    (refine Sat.region_k fun k hk => ?_; simp -implicitDefEqProofs only [evr, id, reduceCtorEq, reduceIte, Nat.reduceMul, Nat.reduceAdd, Nat.reduceLT, Nat.reduceLeDiff, Nat.reduceEqDiff, Int.reduceLT, Int.reduceBEq, Int.reduceBNe, Nat.reduceBEq, frS, evn])
    refine wcall_slice (refTimesC F hso' ha' (by omega) (by omega)) rfl rfl ?_
    intro y hy
    rw [← Nat.pow_succ] at hy
    have hs5 := hy
    obtain ⟨a5, c5, z5, r5, x5, rfl, _⟩ := hy
    have hiff : (256 < (x5.length : Int)) ↔ ¬ ((a ^ (i + 1) : Nat) : Int) < pw 256 := natLong hs5
    simp -implicitDefEqProofs only [evr, id, reduceCtorEq, reduceIte, Nat.reduceMul, Nat.reduceAdd, Nat.reduceLT, Nat.reduceLeDiff, Nat.reduceEqDiff, Int.reduceLT, Int.reduceBEq, Int.reduceBNe, Nat.reduceBEq, frS, evn]
    (refine hk _ ?_; clear hk k; try show Sat _ _ _ _ _)
    (repeat refine Sat.seq ?_)
    (refine Sat.region_k fun k hk => ?_; simp -implicitDefEqProofs only [evr, id, reduceCtorEq, reduceIte, Nat.reduceMul, Nat.reduceAdd, Nat.reduceLT, Nat.reduceLeDiff, Nat.reduceEqDiff, Int.reduceLT, Int.reduceBEq, Int.reduceBNe, Nat.reduceBEq, frS, evn]; refine hk _ ?_; clear hk k; try show Sat _ _ _ _ _)
    refine Sat.cond_b rfl (fun h9 => ?_) (fun h9 => ?_)
    · have h8 := hiff.1 (of_decide_eq_true h9)
      have h7 : ¬ ((a ^ k : Nat) : Int) < pw 256 := by
        have h6 : a ^ (i + 1) ≤ a ^ k := Nat.pow_le_pow_right (by omega) (by omega)
        omega
      (repeat refine Sat.seq ?_)
      (refine Sat.region_k fun k hk => ?_; simp -implicitDefEqProofs only [evr, id, reduceCtorEq, reduceIte, Nat.reduceMul, Nat.reduceAdd, Nat.reduceLT, Nat.reduceLeDiff, Nat.reduceEqDiff, Int.reduceLT, Int.reduceBEq, Int.reduceBNe, Nat.reduceBEq, frS, evn]; refine hk _ ?_; clear hk k; try show Sat _ _ _ _ _)
      refine Sat.ret ?_
      simp only [Tryz.results26, evr, id, reduceCtorEq, reduceIte, Nat.reduceMul, Nat.reduceAdd, Nat.reduceLT, Nat.reduceLeDiff, Nat.reduceEqDiff, Int.reduceLT, Int.reduceBEq, Int.reduceBNe, Nat.reduceBEq, List.append_nil, Int.toNat_zero, Nat.sub_self, frS]
      rw [limE_big h7, limV_big h7]
      exact ⟨_, rfl, Nats.nil⟩
    have bj : ((a ^ (i + 1) : Nat) : Int) < pw 256 := Decidable.not_not.1 fun h8 => (of_decide_eq_false h9) (hiff.2 h8)
    refine Sat.skip ?_
    simp only [thenK, blockK]
    (repeat refine Sat.seq ?_)
    refine Sat.region_k fun k' hk' => ?_
    simp -implicitDefEqProofs only [evr, id, reduceCtorEq, reduceIte, Nat.reduceMul, Nat.reduceAdd, Nat.reduceLT, Nat.reduceLeDiff, Nat.reduceEqDiff, Int.reduceLT, Int.reduceBEq, Int.reduceBNe, Nat.reduceBEq, frS, ei1, evn]
    refine hk' _ ?_
    simp only [thenK, blockK]
    refine ⟨(i + 1, _), ⟨by show i + 1 ≤ k; omega, hs5, bj⟩, by show k - (i + 1) < k - i; omega, ?_⟩
    simp -implicitDefEqProofs only [evr, id, reduceCtorEq, reduceIte, Nat.reduceMul, Nat.reduceAdd, Nat.reduceLT, Nat.reduceLeDiff, Nat.reduceEqDiff, Int.reduceLT, Int.reduceBEq, Int.reduceBNe, Nat.reduceBEq, frS, evl, evn]
  · simp only [decide_eq_false_iff_not] at h
    obtain rfl : i = k := by omega
    refine Sat.exit ?_
    simp only [thenK, blockK, reduceIte]
    (repeat refine Sat.seq ?_)
    (refine Sat.region_k fun k hk => ?_; simp -implicitDefEqProofs only [evr, id, reduceCtorEq, reduceIte, Nat.reduceMul, Nat.reduceAdd, Nat.reduceLT, Nat.reduceLeDiff, Nat.reduceEqDiff, Int.reduceLT, Int.reduceBEq, Int.reduceBNe, Nat.reduceBEq, frS, evn]; refine hk _ ?_; clear hk k; try show Sat _ _ _ _ _)
    refine Sat.ret ?_
    simp only [Tryz.results26, evr, id, reduceCtorEq, reduceIte, Nat.reduceMul, Nat.reduceAdd, Nat.reduceLT, Nat.reduceLeDiff, Nat.reduceEqDiff, Int.reduceLT, Int.reduceBEq, Int.reduceBNe, Nat.reduceBEq, List.append_nil, Int.toNat_zero, Nat.sub_self, frS]
    rw [limE_ok bi, limV_ok bi]
    exact ⟨_, rfl, hso'⟩
set_option maxRecDepth 100000 in
theorem refChooseKC (F : Frm) (n k : Nat) (hn : n ≤ 1024) (hk : k ≤ 1024) : Contract F Tryz.prog 28 [.i .i64 n, .i .i64 k] (natRes (binom n k)) := by
  have h256 : pw 256 ≤ pw 512 := pw_mono (by omega)
  refine contract_of Tryz.func28 rfl (by kernel_rfl) ?_
  simp only [Tryz.ntmps28, argEnv]
  (repeat refine Sat.seq ?_)
  (refine Sat.region_k fun k hk => ?_; simp -implicitDefEqProofs only [evr, id, reduceCtorEq, reduceIte, Nat.reduceMul, Nat.reduceAdd, Nat.reduceLT, Nat.reduceLeDiff, Nat.reduceEqDiff, Int.reduceLT, Int.reduceBEq, Int.reduceBNe, Nat.reduceBEq, frS, evn]; refine hk _ ?_; clear hk k; try show Sat _ _ _ _ _)
  (repeat refine Sat.seq ?_)
  refine Sat.region_at ⟨45, [(21, .b false), (0, .i .i64 n), (1, .i .i64 k)], []⟩ (fun k' hk' => ?_) ?_
  · simp -implicitDefEqProofs only [evr, id, reduceCtorEq, reduceIte, Nat.reduceMul, Nat.reduceAdd, Nat.reduceLT, Nat.reduceLeDiff, Nat.reduceEqDiff, Int.reduceLT, Int.reduceBEq, Int.reduceBNe, Nat.reduceBEq, frS, evn]
    refine ⟨fun h => by omega, fun h => ⟨fun h => by omega, fun h => ⟨fun h => by omega, fun h => hk' _ ?_⟩⟩⟩
    have e : decide (1024 < (k : Int)) = false := by simp; omega
    simp only [e]
    simp -implicitDefEqProofs only [evr, id, reduceCtorEq, reduceIte, Nat.reduceMul, Nat.reduceAdd, Nat.reduceLT, Nat.reduceLeDiff, Nat.reduceEqDiff, Int.reduceLT, Int.reduceBEq, Int.reduceBNe, Nat.reduceBEq, frS, evl, evn]
  simp only [thenK]
  refine Sat.cond_b rfl (fun h => by cases h) (fun _ => ?_)
  refine Sat.skip ?_
  simp only [thenK]
  (repeat refine Sat.seq ?_)
  (refine Sat.region_k fun k hk => ?_; simp -implicitDefEqProofs only [evr, id, reduceCtorEq, reduceIte, Nat.reduceMul, Nat.reduceAdd, Nat.reduceLT, Nat.reduceLeDiff, Nat.reduceEqDiff, Int.reduceLT, Int.reduceBEq, Int.reduceBNe, Nat.reduceBEq, frS, evn]; refine hk _ ?_; clear hk k; try show Sat _ _ _ _ _)
  (repeat refine Sat.seq ?_)
  refine Sat.cond_b rfl (fun h => ?_) (fun h => ?_)
  · have e : binom n k = 0 := binom_gt n k (by simp only [decide_eq_true_eq] at h; omega)
    (repeat refine Sat.seq ?_)
    (refine Sat.region_k fun k hk => ?_; simp -implicitDefEqProofs only [evr, id, reduceCtorEq, reduceIte, Nat.reduceMul, Nat.reduceAdd, Nat.reduceLT, Nat.reduceLeDiff, Nat.reduceEqDiff, Int.reduceLT, Int.reduceBEq, Int.reduceBNe, Nat.reduceBEq, frS, evn]; refine hk _ ?_; clear hk k; try show Sat _ _ _ _ _)
    refine Sat.ret ?_
    simp only [Tryz.results28, evr, id, reduceCtorEq, reduceIte, Nat.reduceMul, Nat.reduceAdd, Nat.reduceLT, Nat.reduceLeDiff, Nat.reduceEqDiff, Int.reduceLT, Int.reduceBEq, Int.reduceBNe, Nat.reduceBEq, List.append_nil, Int.toNat_zero, Nat.sub_self, frS]
    exact ⟨_, rfl, by rw [e]; exact Nats.nil⟩
  have hkn : k ≤ n := by simp only [decide_eq_false_iff_not] at h; omega
  refine Sat.skip ?_
  simp only [thenK]
  (repeat refine Sat.seq ?_)
  (refine Sat.region_k fun k hk => ?_; simp -implicitDefEqProofs only [evr, id, reduceCtorEq, reduceIte, Nat.reduceMul, Nat.reduceAdd, Nat.reduceLT, Nat.reduceLeDiff, Nat.reduceEqDiff, Int.reduceLT, Int.reduceBEq, Int.reduceBNe, Nat.reduceBEq, frS, evn])
  intro az
  (refine hk _ ?_; clear hk k; try show Sat _ _ _ _ _)
  refine Sat.settle2 6 rfl rfl ?_
  simp -implicitDefEqProofs only [evr, id, reduceCtorEq, reduceIte, Nat.reduceMul, Nat.reduceAdd, Nat.reduceLT, Nat.reduceLeDiff, Nat.reduceEqDiff, Int.reduceLT, Int.reduceBEq, Int.reduceBNe, Nat.reduceBEq, frS, evn]
  (repeat refine Sat.seq ?_)
  (refine Sat.region_k fun k hk => ?_; simp -implicitDefEqProofs only [evr, id, reduceCtorEq, reduceIte, Nat.reduceMul, Nat.reduceAdd, Nat.reduceLT, Nat.reduceLeDiff, Nat.reduceEqDiff, Int.reduceLT, Int.reduceBEq, Int.reduceBNe, Nat.reduceBEq, frS, evn]; refine hk _ ?_; clear hk k; try show Sat _ _ _ _ _)
  (repeat refine Sat.seq ?_)
  refine Sat.block ?_
  refine Sat.loop (ι := Nat × SV) (fun x => ⟨45, [(7, .i .i64 x.1), (6, x.2), (0, .i .i64 n), (1, .i .i64 k)], []⟩)
    (fun x => x.1 ≤ k ∧ Nats x.2 (binom n x.1)) (fun x => k - x.1) (0, .sl (some ⟨az, 0, none⟩) 1 1 1 (rdL [SV.i .i64 1] 1)) ⟨Nat.zero_le _, by rw [show binom n 0 = 1 by cases n <;> rfl]; exact nats_one (x := 1) (by omega) (by omega)⟩ (by simp -implicitDefEqProofs only [evr, id, reduceCtorEq, reduceIte, Nat.reduceMul, Nat.reduceAdd, Nat.reduceLT, Nat.reduceLeDiff, Nat.reduceEqDiff, Int.reduceLT, Int.reduceBEq, Int.reduceBNe, Nat.reduceBEq, frS, evl, evn]; try rfl) ?_
  rintro ⟨i, so⟩ ⟨hi, hso⟩
  simp only at hi hso ⊢
  have hso' := hso
  obtain ⟨a3, c3, z3, r3, x3, rfl, _⟩ := hso
  (repeat refine Sat.seq ?_)
  (refine Sat.region_k fun k hk => ?_; simp -implicitDefEqProofs only [evr, id, reduceCtorEq, reduceIte, Nat.reduceMul, Nat.reduceAdd, Nat.reduceLT, Nat.reduceLeDiff, Nat.reduceEqDiff, Int.reduceLT, Int.reduceBEq, Int.reduceBNe, Nat.reduceBEq, frS, evn]; refine hk _ ?_; clear hk k; try show Sat _ _ _ _ _)
  (repeat refine Sat.seq ?_)
  refine Sat.cond_b rfl (fun h => ?_) (fun h => ?_)
  · simp only [decide_eq_true_eq] at h
    have hik : i < k := by omega
    have ei1 : IntKind.i64.wrap ((i : Int) + 1) = ((i + 1 : Nat) : Int) := by rw [w64 (by omega)]; omega
    have ei : IntKind.i64.wrap ((n : Int) - (i : Int)) = ((n - i : Nat) : Int) := by rw [w64 (by omega)]; omega
    have b1 := Zn.binom_pw (n := n) (by omega) i
    have b2 := Zn.binom_mul_pw (n := n) (by omega) i (n - i) (by omega)
    refine Sat.skip ?_
    simp only [thenK]
    (repeat refine Sat.seq ?_)
    refine Sat.block ?_
    refine Sat.region_k fun k' hk' => ?_
    simp -implicitDefEqProofs only [evr, id, reduceCtorEq, reduceIte, Nat.reduceMul, Nat.reduceAdd, Nat.reduceLT, Nat.reduceLeDiff, Nat.reduceEqDiff, Int.reduceLT, Int.reduceBEq, Int.reduceBNe, Nat.reduceBEq, frS, ei, ei1, evn]
    intro bz
    refine wcall_slice (refTimesC F hso' (nats_lit (a := some ⟨bz, 0, none⟩) (cap := 1) rfl (show n - i < 1073741824 by omega) (by omega)) (Int.lt_of_lt_of_le b1 h256) (lt_pw (a := 11) (by omega) (by decide))) rfl (by simp -implicitDefEqProofs only [evr, id, reduceCtorEq, reduceIte, Nat.reduceMul, Nat.reduceAdd, Nat.reduceLT, Nat.reduceLeDiff, Nat.reduceEqDiff, Int.reduceLT, Int.reduceBEq, Int.reduceBNe, Nat.reduceBEq, frS, evn]; try rfl) ?_
    intro y hy
    have hs5 := hy
    obtain ⟨a5, c5, z5, r5, x5, rfl, _⟩ := hy
    simp -implicitDefEqProofs only [evr, id, reduceCtorEq, reduceIte, Nat.reduceMul, Nat.reduceAdd, Nat.reduceLT, Nat.reduceLeDiff, Nat.reduceEqDiff, Int.reduceLT, Int.reduceBEq, Int.reduceBNe, Nat.reduceBEq, frS, evn]
    intro dz
    refine wcall_slice (refSplitC F hs5 (nats_lit (a := some ⟨dz, 0, none⟩) (cap := 1) rfl (show i + 1 < 1073741824 by omega) (by omega)) b2 (lt_pw (a := 11) (by omega) (by decide)) (by omega)) rfl (by simp -implicitDefEqProofs only [evr, id, reduceCtorEq, reduceIte, Nat.reduceMul, Nat.reduceAdd, Nat.reduceLT, Nat.reduceLeDiff, Nat.reduceEqDiff, Int.reduceLT, Int.reduceBEq, Int.reduceBNe, Nat.reduceBEq, frS, ei1, evn]) ?_
    rintro r ⟨s, t, rfl, hs, ht⟩
    rw [Zn.binom_div] at hs
    have hs6 := hs
    obtain ⟨a6, c6, z6, r6, x6, rfl, _⟩ := hs
    obtain ⟨a7, c7, z7, r7, x7, rfl, _⟩ := ht
    simp -implicitDefEqProofs only [evr, id, reduceCtorEq, reduceIte, Nat.reduceMul, Nat.reduceAdd, Nat.reduceLT, Nat.reduceLeDiff, Nat.reduceEqDiff, Int.reduceLT, Int.reduceBEq, Int.reduceBNe, Nat.reduceBEq, frS, evn]
    refine hk' _ ?_
    clear hk' k'
    simp only [thenK, blockK]
    (repeat refine Sat.seq ?_)
    refine Sat.region_k fun k' hk' => ?_
    simp -implicitDefEqProofs only [evr, id, reduceCtorEq, reduceIte, Nat.reduceMul, Nat.reduceAdd, Nat.reduceLT, Nat.reduceLeDiff, Nat.reduceEqDiff, Int.reduceLT, Int.reduceBEq, Int.reduceBNe, Nat.reduceBEq, frS, ei1, evn]
    refine hk' _ ?_
    simp only [thenK, blockK]
    refine ⟨(i + 1, _), ⟨by show i + 1 ≤ k; omega, hs6⟩, by show k - (i + 1) < k - i; omega, ?_⟩
    simp -implicitDefEqProofs only [evr, id, reduceCtorEq, reduceIte, Nat.reduceMul, Nat.reduceAdd, Nat.reduceLT, Nat.reduceLeDiff, Nat.reduceEqDiff, Int.reduceLT, Int.reduceBEq, Int.reduceBNe, Nat.reduceBEq, frS, evl, evn]
  · simp only [decide_eq_false_iff_not] at h
    obtain rfl : i = k := by omega
    refine Sat.exit ?_
    simp only [thenK, blockK, reduceIte]
    (repeat refine Sat.seq ?_)
    (refine Sat.region_k fun k hk => ?_; simp -implicitDefEqProofs only [evr, id, reduceCtorEq, reduceIte, Nat.reduceMul, Nat.reduceAdd, Nat.reduceLT, Nat.reduceLeDiff, Nat.reduceEqDiff, Int.reduceLT, Int.reduceBEq, Int.reduceBNe, Nat.reduceBEq, frS, evn]; refine hk _ ?_; clear hk k; try show Sat _ _ _ _ _)
    refine Sat.ret ?_
    simp only [Tryz.results28, evr, id, reduceCtorEq, reduceIte, Nat.reduceMul, Nat.reduceAdd, Nat.reduceLT, Nat.reduceLeDiff, Nat.reduceEqDiff, Int.reduceLT, Int.reduceBEq, Int.reduceBNe, Nat.reduceBEq, List.append_nil, Int.toNat_zero, Nat.sub_self, frS]
    exact ⟨_, rfl, hso'⟩
theorem pw_one : (1 : Int) < pw 256 := by
  have := pw_mono (show 1 ≤ 256 by omega)
  rw [pw_succ, pw_zero] at this
  omega
theorem zero_pow_step {o r k : Nat} (h : o * 0 ^ r = 0 ^ k) (hr : 0 < r) : 0 ^ k = 0 := by
  obtain ⟨q, rfl⟩ : ∃ q, r = q + 1 := ⟨r - 1, by omega⟩
  rw [Nat.pow_succ, Nat.mul_zero, Nat.mul_zero] at h
  exact h.symm
theorem half_e (r : Nat) : ((r : Int)).fdiv (2 ^ min (Int.toNat 1) IntKind.i64.bits) = ((r / 2 : Nat) : Int) := by
  have e1 : ((2 : Int) ^ min (Int.toNat 1) IntKind.i64.bits) = 2 := by decide
  rw [e1, Int.fdiv_eq_ediv_of_nonneg _ (by decide)]
  omega
set_option maxRecDepth 100000 in
theorem pow0C (F : Frm) {sa : SV} (k0 : Nat) (ha : Nats sa 0) (hk0 : k0 ≤ 65536) : Contract F Tryz.prog 25 [sa, .i .i64 k0] (natRes (0 ^ k0)) := by
  have ha' := ha
  obtain ⟨a1, c1, z1, r1, x1, rfl, _⟩ := ha
  refine contract_of Tryz.func25 rfl (by kernel_rfl) ?_
  simp only [Tryz.ntmps25, argEnv]
  (repeat refine Sat.seq ?_)
  (refine Sat.region_k fun k hk => ?_; simp -implicitDefEqProofs only [evr, id, reduceCtorEq, reduceIte, Nat.reduceMul, Nat.reduceAdd, Nat.reduceLT, Nat.reduceLeDiff, Nat.reduceEqDiff, Int.reduceLT, Int.reduceBEq, Int.reduceBNe, Nat.reduceBEq, frS, evn]; refine hk _ ?_; clear hk k; try show Sat _ _ _ _ _)
  (repeat refine Sat.seq ?_)
  refine Sat.region_at ⟨46, [(14, .b false), (0, .sl a1 x1.length c1 z1 r1), (1, .i .i64 k0)], []⟩ (fun k hk => ?_) ?_
  · simp -implicitDefEqProofs only [evr, id, reduceCtorEq, reduceIte, Nat.reduceMul, Nat.reduceAdd, Nat.reduceLT, Nat.reduceLeDiff, Nat.reduceEqDiff, Int.reduceLT, Int.reduceBEq, Int.reduceBNe, Nat.reduceBEq, frS, evn]
    refine ⟨fun h => ?_, fun h => ?_⟩
    · omega
    · refine hk _ ?_
      have e : decide (65536 < (k0 : Int)) = false := by simp; omega
      simp only [e]
      simp -implicitDefEqProofs only [evr, id, reduceCtorEq, reduceIte, Nat.reduceMul, Nat.reduceAdd, Nat.reduceLT, Nat.reduceLeDiff, Nat.reduceEqDiff, Int.reduceLT, Int.reduceBEq, Int.reduceBNe, Nat.reduceBEq, frS, evl, evn]
  simp only [thenK]
  refine Sat.cond_b rfl (fun h => by cases h) (fun h => ?_)
  refine Sat.skip ?_
  simp only [thenK]
  (repeat refine Sat.seq ?_)
  (refine Sat.region_k fun k hk => ?_; simp -implicitDefEqProofs only [evr, id, reduceCtorEq, reduceIte, Nat.reduceMul, Nat.reduceAdd, Nat.reduceLT, Nat.reduceLeDiff, Nat.reduceEqDiff, Int.reduceLT, Int.reduceBEq, Int.reduceBNe, Nat.reduceBEq, frS, evn])
  intro blk
  refine wcall_slice (cloneNatC F ha' (by have := pw_one; omega)) rfl rfl ?_
  intro y hy
  have hy1 := hy
  obtain ⟨a2, c2, z2, r2, x2, rfl, _⟩ := hy
  simp -implicitDefEqProofs only [evr, id, reduceCtorEq, reduceIte, Nat.reduceMul, Nat.reduceAdd, Nat.reduceLT, Nat.reduceLeDiff, Nat.reduceEqDiff, Int.reduceLT, Int.reduceBEq, Int.reduceBNe, Nat.reduceBEq, frS, evn]
  (refine hk _ ?_; clear hk k; try show Sat _ _ _ _ _)
  have h1s : Nats (.sl (some ⟨blk, 0, none⟩) 1 1 1 (rdL [.i .i64 1] 1)) 1 := nats_of (xs := [1]) rfl (fun p hp => by have hp0 : p = 0 := by omega
                                                                                                                     subst hp0; rfl) (dig_one (x := 1) (by omega) (by omega))
  refine Sat.settle2 6 rfl rfl ?_
  simp -implicitDefEqProofs only [evr, id, reduceCtorEq, reduceIte, Nat.reduceMul, Nat.reduceAdd, Nat.reduceLT, Nat.reduceLeDiff, Nat.reduceEqDiff, Int.reduceLT, Int.reduceBEq, Int.reduceBNe, Nat.reduceBEq, frS, evn]
  (repeat refine Sat.seq ?_)
  refine Sat.block ?_
  (repeat refine Sat.seq ?_)
  refine Sat.loop (ι := Nat × SV × SV) (fun x => ⟨46, [(1, .i .i64 x.1), (6, x.2.1), (7, x.2.2)], []⟩)
    (fun x => x.1 ≤ 65536 ∧ (∃ o, Nats x.2.1 o ∧ o ≤ 1 ∧ o * 0 ^ x.1 = 0 ^ k0) ∧ Nats x.2.2 0) (fun x => x.1) (k0, .sl (some ⟨blk, 0, none⟩) 1 1 1 (rdL [.i .i64 1] 1), .sl a2 x2.length c2 z2 r2) ⟨hk0, ⟨1, h1s, by omega, Nat.one_mul _⟩, hy1⟩ (by simp -implicitDefEqProofs only [evr, id, reduceCtorEq, reduceIte, Nat.reduceMul, Nat.reduceAdd, Nat.reduceLT, Nat.reduceLeDiff, Nat.reduceEqDiff, Int.reduceLT, Int.reduceBEq, Int.reduceBNe, Nat.reduceBEq, frS, evl, evn]; try rfl) ?_
  rintro ⟨r, so, sq⟩ ⟨hr, ⟨o, ho, ho1, hoe⟩, hs⟩
  simp only at hr ho ho1 hoe hs ⊢
  have ho' := ho
  have hs0 := hs
  obtain ⟨a3, c3, z3, r3, x3, rfl, _⟩ := ho
  obtain ⟨a4, c4, z4, r4, x4, rfl, _⟩ := hs
  (repeat refine Sat.seq ?_)
  (refine Sat.region_k fun k hk => ?_; simp -implicitDefEqProofs only [evr, id, reduceCtorEq, reduceIte, Nat.reduceMul, Nat.reduceAdd, Nat.reduceLT, Nat.reduceLeDiff, Nat.reduceEqDiff, Int.reduceLT, Int.reduceBEq, Int.reduceBNe, Nat.reduceBEq, frS, evn]; refine hk _ ?_; clear hk k; try show Sat _ _ _ _ _)
  (repeat refine Sat.seq ?_)
  refine Sat.cond_b rfl (fun h => ?_) (fun h => ?_)
  · simp only [decide_eq_true_eq] at h
    have hr0 : 0 < r := by omega
    have hz := zero_pow_step hoe hr0
    refine Sat.skip ?_
    simp only [thenK]
    (repeat refine Sat.seq ?_)
    refine Sat.block ?_
    (repeat refine Sat.seq ?_)
    (refine Sat.region_k fun k hk => ?_; simp -implicitDefEqProofs only [evr, id, reduceCtorEq, reduceIte, Nat.reduceMul, Nat.reduceAdd, Nat.reduceLT, Nat.reduceLeDiff, Nat.reduceEqDiff, Int.reduceLT, Int.reduceBEq, Int.reduceBNe, Nat.reduceBEq, frS, evn]; refine hk _ ?_; clear hk k; try show Sat _ _ _ _ _)
    (repeat refine Sat.seq ?_)
    refine Sat.region_k fun k hk => ?_
    simp -implicitDefEqProofs only [evr, id, reduceCtorEq, reduceIte, Nat.reduceMul, Nat.reduceAdd, Nat.reduceLT, Nat.reduceLeDiff, Nat.reduceEqDiff, Int.reduceLT, Int.reduceBEq, Int.reduceBNe, Nat.reduceBEq, frS, Zn.and_one, evn]
    (refine hk _ ?_; clear hk k; try show Sat _ _ _ _ _)
    (repeat refine Sat.seq ?_)
    refine Sat.cond_b rfl (fun h5 => ?_) (fun h5 => ?_)
    · (repeat refine Sat.seq ?_)
      (refine Sat.region_k fun k hk => ?_; simp -implicitDefEqProofs only [evr, id, reduceCtorEq, reduceIte, Nat.reduceMul, Nat.reduceAdd, Nat.reduceLT, Nat.reduceLeDiff, Nat.reduceEqDiff, Int.reduceLT, Int.reduceBEq, Int.reduceBNe, Nat.reduceBEq, frS, evn])
      refine wcall_slice (mulC F ho' hs0 (by have := pw_one; omega) (by have := pw_one; omega) (by have := pw_one; omega)) rfl rfl ?_
      rintro y ⟨s, rfl, hy⟩
      have hs5 := hy
      obtain ⟨a5, c5, z5, r5, x5, rfl, _⟩ := hy
      simp -implicitDefEqProofs only [evr, id, reduceCtorEq, reduceIte, Nat.reduceMul, Nat.reduceAdd, Nat.reduceLT, Nat.reduceLeDiff, Nat.reduceEqDiff, Int.reduceLT, Int.reduceBEq, Int.reduceBNe, Nat.reduceBEq, frS, evn]
      (refine hk _ ?_; clear hk k; try show Sat _ _ _ _ _)
      (repeat refine Sat.seq ?_)
      (refine Sat.region_k fun k hk => ?_; simp -implicitDefEqProofs only [evr, id, reduceCtorEq, reduceIte, Nat.reduceMul, Nat.reduceAdd, Nat.reduceLT, Nat.reduceLeDiff, Nat.reduceEqDiff, Int.reduceLT, Int.reduceBEq, Int.reduceBNe, Nat.reduceBEq, frS, evn]; refine hk _ ?_; clear hk k; try show Sat _ _ _ _ _)
      refine Sat.cond_b rfl (fun h => by cases h) (fun h => ?_)
      refine Sat.skip ?_
      simp only [thenK, blockK]
      (repeat refine Sat.seq ?_)
      (refine Sat.region_k fun k hk => ?_; simp -implicitDefEqProofs only [evr, id, reduceCtorEq, reduceIte, Nat.reduceMul, Nat.reduceAdd, Nat.reduceLT, Nat.reduceLeDiff, Nat.reduceEqDiff, Int.reduceLT, Int.reduceBEq, Int.reduceBNe, Nat.reduceBEq, frS, evn]; refine hk _ ?_; clear hk k; try show Sat _ _ _ _ _)
      (repeat refine Sat.seq ?_)
      refine Sat.cond_b rfl (fun h => ?_) (fun h => ?_)
      · simp only [decide_eq_true_eq] at h
        (repeat refine Sat.seq ?_)
        (refine Sat.region_k fun k hk => ?_; simp -implicitDefEqProofs only [evr, id, reduceCtorEq, reduceIte, Nat.reduceMul, Nat.reduceAdd, Nat.reduceLT, Nat.reduceLeDiff, Nat.reduceEqDiff, Int.reduceLT, Int.reduceBEq, Int.reduceBNe, Nat.reduceBEq, frS, evn])
        refine wcall_slice (mulC F hs0 hs0 (by have := pw_one; omega) (by have := pw_one; omega) (by have := pw_one; omega)) rfl rfl ?_
        rintro y ⟨s, rfl, hy⟩
        have hs1 := hy
        obtain ⟨a7, c7, z7, r7, x7, rfl, _⟩ := hy
        simp -implicitDefEqProofs only [evr, id, reduceCtorEq, reduceIte, Nat.reduceMul, Nat.reduceAdd, Nat.reduceLT, Nat.reduceLeDiff, Nat.reduceEqDiff, Int.reduceLT, Int.reduceBEq, Int.reduceBNe, Nat.reduceBEq, frS, evn]
        (refine hk _ ?_; clear hk k; try show Sat _ _ _ _ _)
        (repeat refine Sat.seq ?_)
        (refine Sat.region_k fun k hk => ?_; simp -implicitDefEqProofs only [evr, id, reduceCtorEq, reduceIte, Nat.reduceMul, Nat.reduceAdd, Nat.reduceLT, Nat.reduceLeDiff, Nat.reduceEqDiff, Int.reduceLT, Int.reduceBEq, Int.reduceBNe, Nat.reduceBEq, frS, evn]; refine hk _ ?_; clear hk k; try show Sat _ _ _ _ _)
        refine Sat.cond_b rfl (fun h => by cases h) (fun h => ?_)
        refine Sat.skip ?_
        simp only [thenK, blockK]
        (repeat refine Sat.seq ?_)
        (refine Sat.region_k fun k hk => ?_; simp -implicitDefEqProofs only [evr, id, reduceCtorEq, reduceIte, Nat.reduceMul, Nat.reduceAdd, Nat.reduceLT, Nat.reduceLeDiff, Nat.reduceEqDiff, Int.reduceLT, Int.reduceBEq, Int.reduceBNe, Nat.reduceBEq, frS, evn])
        refine ⟨by decide, ?_⟩
        refine hk _ ?_
        simp only [thenK, blockK]
        refine ⟨(r / 2, _, _), ⟨by show r / 2 ≤ 65536; omega, ⟨0, hs5, by omega, by rw [hz, Nat.zero_mul]⟩, hs1⟩, by show r / 2 < r; omega, ?_⟩
        simp -implicitDefEqProofs only [evr, id, reduceCtorEq, reduceIte, Nat.reduceMul, Nat.reduceAdd, Nat.reduceLT, Nat.reduceLeDiff, Nat.reduceEqDiff, Int.reduceLT, Int.reduceBEq, Int.reduceBNe, Nat.reduceBEq, frS, evl, evn]
        try exact half_e r
      · simp only [decide_eq_false_iff_not] at h
        refine Sat.skip ?_
        simp only [thenK, blockK]
        (repeat refine Sat.seq ?_)
        (refine Sat.region_k fun k hk => ?_; simp -implicitDefEqProofs only [evr, id, reduceCtorEq, reduceIte, Nat.reduceMul, Nat.reduceAdd, Nat.reduceLT, Nat.reduceLeDiff, Nat.reduceEqDiff, Int.reduceLT, Int.reduceBEq, Int.reduceBNe, Nat.reduceBEq, frS, evn])
        refine ⟨by decide, ?_⟩
        refine hk _ ?_
        simp only [thenK, blockK]
        refine ⟨(r / 2, _, _), ⟨by show r / 2 ≤ 65536; omega, ⟨0, hs5, by omega, by rw [hz, Nat.zero_mul]⟩, hs0⟩, by show r / 2 < r; omega, ?_⟩
        simp -implicitDefEqProofs only [evr, id, reduceCtorEq, reduceIte, Nat.reduceMul, Nat.reduceAdd, Nat.reduceLT, Nat.reduceLeDiff, Nat.reduceEqDiff, Int.reduceLT, Int.reduceBEq, Int.reduceBNe, Nat.reduceBEq, frS, evl, evn]
        try exact half_e r
    · refine Sat.skip ?_
      simp only [thenK, blockK]
      have h6 : r % 2 = 0 := by simp only [beq_eq_false_iff_ne] at h5; omega
      have h7 : o * 0 ^ (r / 2) = 0 ^ k0 := by
        obtain ⟨q, hq⟩ : ∃ q, r / 2 = q + 1 := ⟨r / 2 - 1, by omega⟩
        rw [hq, Nat.pow_succ, Nat.mul_zero, Nat.mul_zero, hz]
      (repeat refine Sat.seq ?_)
      (refine Sat.region_k fun k hk => ?_; simp -implicitDefEqProofs only [evr, id, reduceCtorEq, reduceIte, Nat.reduceMul, Nat.reduceAdd, Nat.reduceLT, Nat.reduceLeDiff, Nat.reduceEqDiff, Int.reduceLT, Int.reduceBEq, Int.reduceBNe, Nat.reduceBEq, frS, evn]; refine hk _ ?_; clear hk k; try show Sat _ _ _ _ _)
      (repeat refine Sat.seq ?_)
      refine Sat.cond_b rfl (fun h => ?_) (fun h => ?_)
      · simp only [decide_eq_true_eq] at h
        (repeat refine Sat.seq ?_)
        (refine Sat.region_k fun k hk => ?_; simp -implicitDefEqProofs only [evr, id, reduceCtorEq, reduceIte, Nat.reduceMul, Nat.reduceAdd, Nat.reduceLT, Nat.reduceLeDiff, Nat.reduceEqDiff, Int.reduceLT, Int.reduceBEq, Int.reduceBNe, Nat.reduceBEq, frS, evn])
        refine wcall_slice (mulC F hs0 hs0 (by have := pw_one; omega) (by have := pw_one; omega) (by have := pw_one; omega)) rfl rfl ?_
        rintro y ⟨s, rfl, hy⟩
        have hs1 := hy
        obtain ⟨a7, c7, z7, r7, x7, rfl, _⟩ := hy
        simp -implicitDefEqProofs only [evr, id, reduceCtorEq, reduceIte, Nat.reduceMul, Nat.reduceAdd, Nat.reduceLT, Nat.reduceLeDiff, Nat.reduceEqDiff, Int.reduceLT, Int.reduceBEq, Int.reduceBNe, Nat.reduceBEq, frS, evn]
        (refine hk _ ?_; clear hk k; try show Sat _ _ _ _ _)
        (repeat refine Sat.seq ?_)
        (refine Sat.region_k fun k hk => ?_; simp -implicitDefEqProofs only [evr, id, reduceCtorEq, reduceIte, Nat.reduceMul, Nat.reduceAdd, Nat.reduceLT, Nat.reduceLeDiff, Nat.reduceEqDiff, Int.reduceLT, Int.reduceBEq, Int.reduceBNe, Nat.reduceBEq, frS, evn]; refine hk _ ?_; clear hk k; try show Sat _ _ _ _ _)
        refine Sat.cond_b rfl (fun h => by cases h) (fun h => ?_)
        refine Sat.skip ?_
        simp only [thenK, blockK]
        (repeat refine Sat.seq ?_)
        (refine Sat.region_k fun k hk => ?_; simp -implicitDefEqProofs only [evr, id, reduceCtorEq, reduceIte, Nat.reduceMul, Nat.reduceAdd, Nat.reduceLT, Nat.reduceLeDiff, Nat.reduceEqDiff, Int.reduceLT, Int.reduceBEq, Int.reduceBNe, Nat.reduceBEq, frS, evn])
        refine ⟨by decide, ?_⟩
        refine hk _ ?_
        simp only [thenK, blockK]
        refine ⟨(r / 2, _, _), ⟨by show r / 2 ≤ 65536; omega, ⟨o, ho', ho1, h7⟩, hs1⟩, by show r / 2 < r; omega, ?_⟩
        simp -implicitDefEqProofs only [evr, id, reduceCtorEq, reduceIte, Nat.reduceMul, Nat.reduceAdd, Nat.reduceLT, Nat.reduceLeDiff, Nat.reduceEqDiff, Int.reduceLT, Int.reduceBEq, Int.reduceBNe, Nat.reduceBEq, frS, evl, evn]
        try exact half_e r
      · simp only [decide_eq_false_iff_not] at h
        refine Sat.skip ?_
        simp only [thenK, blockK]
        (repeat refine Sat.seq ?_)
        (refine Sat.region_k fun k hk => ?_; simp -implicitDefEqProofs only [evr, id, reduceCtorEq, reduceIte, Nat.reduceMul, Nat.reduceAdd, Nat.reduceLT, Nat.reduceLeDiff, Nat.reduceEqDiff, Int.reduceLT, Int.reduceBEq, Int.reduceBNe, Nat.reduceBEq, frS, evn])
        refine ⟨by decide, ?_⟩
        refine hk _ ?_
        simp only [thenK, blockK]
        refine ⟨(r / 2, _, _), ⟨by show r / 2 ≤ 65536; omega, ⟨o, ho', ho1, h7⟩, hs0⟩, by show r / 2 < r; omega, ?_⟩
        simp -implicitDefEqProofs only [evr, id, reduceCtorEq, reduceIte, Nat.reduceMul, Nat.reduceAdd, Nat.reduceLT, Nat.reduceLeDiff, Nat.reduceEqDiff, Int.reduceLT, Int.reduceBEq, Int.reduceBNe, Nat.reduceBEq, frS, evl, evn]
        try exact half_e r
  · simp only [decide_eq_false_iff_not] at h
    obtain rfl : r = 0 := by omega
    refine Sat.exit ?_
    simp only [thenK, blockK, reduceIte]
    (repeat refine Sat.seq ?_)
    (refine Sat.region_k fun k hk => ?_; simp -implicitDefEqProofs only [evr, id, reduceCtorEq, reduceIte, Nat.reduceMul, Nat.reduceAdd, Nat.reduceLT, Nat.reduceLeDiff, Nat.reduceEqDiff, Int.reduceLT, Int.reduceBEq, Int.reduceBNe, Nat.reduceBEq, frS, evn]; refine hk _ ?_; clear hk k; try show Sat _ _ _ _ _)
    refine Sat.ret ?_
    simp only [Tryz.results25, evr, id, reduceCtorEq, reduceIte, Nat.reduceMul, Nat.reduceAdd, Nat.reduceLT, Nat.reduceLeDiff, Nat.reduceEqDiff, Int.reduceLT, Int.reduceBEq, Int.reduceBNe, Nat.reduceBEq, List.append_nil, Int.toNat_zero, Nat.sub_self, frS]
    rw [Nat.pow_zero, Nat.mul_one] at hoe
    exact ⟨_, rfl, by rw [← hoe]; exact ho'⟩
def powE (a : Nat) (k : Int) : Nat := if k < 0 ∨ 65536 < k then 1 else limE (a ^ k.toNat)
def powV (a : Nat) (k : Int) : Nat := if k < 0 ∨ 65536 < k then 0 else limV (a ^ k.toNat)
def chE (n k : Int) : Nat := if n < 0 ∨ 1024 < n ∨ k < 0 ∨ 1024 < k then 1 else 0
def chV (n k : Int) : Nat := if n < 0 ∨ 1024 < n ∨ k < 0 ∨ 1024 < k then 0 else binom n.toNat k.toNat
section
variable (F : Frm) {sa : SV} {a : Nat}
set_option maxRecDepth 100000 in
theorem refPowErrC (k0 : Int) (ha : Nats sa a) (h : k0 < 0 ∨ 65536 < k0) : Contract F Tryz.prog 26 [sa, .i .i64 k0] (numRes 1 0) := by
  obtain ⟨a1, c1, z1, r1, x1, rfl, _⟩ := ha
  refine contract_of Tryz.func26 rfl (by kernel_rfl) ?_
  simp only [Tryz.ntmps26, argEnv]
  (repeat refine Sat.seq ?_)
  (refine Sat.region_k fun k hk => ?_; simp -implicitDefEqProofs only [evr, id, reduceCtorEq, reduceIte, Nat.reduceMul, Nat.reduceAdd, Nat.reduceLT, Nat.reduceLeDiff, Nat.reduceEqDiff, Int.reduceLT, Int.reduceBEq, Int.reduceBNe, Nat.reduceBEq, frS, evn]; refine hk _ ?_; clear hk k; try show Sat _ _ _ _ _)
  (repeat refine Sat.seq ?_)
  refine Sat.region_at ⟨41, [(13, .b true)], []⟩ (fun k hk => ?_) ?_
  · simp -implicitDefEqProofs only [evr, id, reduceCtorEq, reduceIte, Nat.reduceMul, Nat.reduceAdd, Nat.reduceLT, Nat.reduceLeDiff, Nat.reduceEqDiff, Int.reduceLT, Int.reduceBEq, Int.reduceBNe, Nat.reduceBEq, frS, evn]
    refine ⟨fun h9 => ?_, fun h9 => ?_⟩
    · refine hk _ ?_
      simp -implicitDefEqProofs only [evr, id, reduceCtorEq, reduceIte, Nat.reduceMul, Nat.reduceAdd, Nat.reduceLT, Nat.reduceLeDiff, Nat.reduceEqDiff, Int.reduceLT, Int.reduceBEq, Int.reduceBNe, Nat.reduceBEq, frS, evl, evn]
      try exact h9
    · refine hk _ ?_
      rw [decide_eq_true (show 65536 < k0 by omega)]
      simp -implicitDefEqProofs only [evr, id, reduceCtorEq, reduceIte, Nat.reduceMul, Nat.reduceAdd, Nat.reduceLT, Nat.reduceLeDiff, Nat.reduceEqDiff, Int.reduceLT, Int.reduceBEq, Int.reduceBNe, Nat.reduceBEq, frS, evl, evn]
  simp only [thenK]
  refine Sat.cond_b rfl (fun _ => ?_) (fun h => by cases h)
  (repeat refine Sat.seq ?_)
  (refine Sat.region_k fun k hk => ?_; simp -implicitDefEqProofs only [evr, id, reduceCtorEq, reduceIte, Nat.reduceMul, Nat.reduceAdd, Nat.reduceLT, Nat.reduceLeDiff, Nat.reduceEqDiff, Int.reduceLT, Int.reduceBEq, Int.reduceBNe, Nat.reduceBEq, frS, evn]; refine hk _ ?_; clear hk k; try show Sat _ _ _ _ _)
  refine Sat.ret ?_
  simp only [Tryz.results26, evr, id, reduceCtorEq, reduceIte, Nat.reduceMul, Nat.reduceAdd, Nat.reduceLT, Nat.reduceLeDiff, Nat.reduceEqDiff, Int.reduceLT, Int.reduceBEq, Int.reduceBNe, Nat.reduceBEq, List.append_nil, Int.toNat_zero, Nat.sub_self, frS]
  exact ⟨_, rfl, Nats.nil⟩
set_option maxRecDepth 100000 in
theorem natPowErrC (k0 : Int) (ha : Nats sa a) (h : k0 < 0 ∨ 65536 < k0) : Contract F Tryz.prog 25 [sa, .i .i64 k0] (numRes 1 0) := by
  obtain ⟨a1, c1, z1, r1, x1, rfl, _⟩ := ha
  refine contract_of Tryz.func25 rfl (by kernel_rfl) ?_
  simp only [Tryz.ntmps25, argEnv]
  (repeat refine Sat.seq ?_)
  (refine Sat.region_k fun k hk => ?_; simp -implicitDefEqProofs only [evr, id, reduceCtorEq, reduceIte, Nat.reduceMul, Nat.reduceAdd, Nat.reduceLT, Nat.reduceLeDiff, Nat.reduceEqDiff, Int.reduceLT, Int.reduceBEq, Int.reduceBNe, Nat.reduceBEq, frS, evn]; refine hk _ ?_; clear hk k; try show Sat _ _ _ _ _)
  (repeat refine Sat.seq ?_)
  refine Sat.region_at ⟨46, [(14, .b true)], []⟩ (fun k hk => ?_) ?_
  · simp -implicitDefEqProofs only [evr, id, reduceCtorEq, reduceIte, Nat.reduceMul, Nat.reduceAdd, Nat.reduceLT, Nat.reduceLeDiff, Nat.reduceEqDiff, Int.reduceLT, Int.reduceBEq, Int.reduceBNe, Nat.reduceBEq, frS, evn]
    refine ⟨fun h9 => ?_, fun h9 => ?_⟩
    · refine hk _ ?_
      simp -implicitDefEqProofs only [evr, id, reduceCtorEq, reduceIte, Nat.reduceMul, Nat.reduceAdd, Nat.reduceLT, Nat.reduceLeDiff, Nat.reduceEqDiff, Int.reduceLT, Int.reduceBEq, Int.reduceBNe, Nat.reduceBEq, frS, evl, evn]
      try exact h9
    · refine hk _ ?_
      rw [decide_eq_true (show 65536 < k0 by omega)]
      simp -implicitDefEqProofs only [evr, id, reduceCtorEq, reduceIte, Nat.reduceMul, Nat.reduceAdd, Nat.reduceLT, Nat.reduceLeDiff, Nat.reduceEqDiff, Int.reduceLT, Int.reduceBEq, Int.reduceBNe, Nat.reduceBEq, frS, evl, evn]
  simp only [thenK]
  refine Sat.cond_b rfl (fun _ => ?_) (fun h => by cases h)
  (repeat refine Sat.seq ?_)
  (refine Sat.region_k fun k hk => ?_; simp -implicitDefEqProofs only [evr, id, reduceCtorEq, reduceIte, Nat.reduceMul, Nat.reduceAdd, Nat.reduceLT, Nat.reduceLeDiff, Nat.reduceEqDiff, Int.reduceLT, Int.reduceBEq, Int.reduceBNe, Nat.reduceBEq, frS, evn]; refine hk _ ?_; clear hk k; try show Sat _ _ _ _ _)
  refine Sat.ret ?_
  simp only [Tryz.results25, evr, id, reduceCtorEq, reduceIte, Nat.reduceMul, Nat.reduceAdd, Nat.reduceLT, Nat.reduceLeDiff, Nat.reduceEqDiff, Int.reduceLT, Int.reduceBEq, Int.reduceBNe, Nat.reduceBEq, List.append_nil, Int.toNat_zero, Nat.sub_self, frS]
  exact ⟨_, rfl, Nats.nil⟩
theorem natPowKC (k : Nat) (ha : Nats sa a) (h1 : 1 ≤ a) (hm : (a : Int) < pw 256) (hk : k ≤ 65536) : Contract F Tryz.prog 25 [sa, .i .i64 k] (numRes (limE (a ^ k)) (limV (a ^ k))) := by
  refine ofCalls Tryz.func25 rfl (by kernel_rfl) fun R w hargs hR => ?_
  refine (@Zn.pow_calls (zoneOf R w) _ a k k w (nat_to (hargs sa (by simp)) ha hR) h1 hm rfl hk).mono ?_
  rintro e w' (⟨hlt, v, rfl, hv, hbel⟩ | ⟨hge, rfl, hbel⟩)
  · obtain ⟨s, rfl, hs, hok⟩ := nat_from hv
    exact ⟨tupL [s, .i .i64 0], rfl, ⟨s, by rw [limE_ok hlt]; rfl, by rw [limV_ok hlt]; exact hs⟩, tup2_ok hok trivial, hbel⟩
  · refine ⟨tupL [.sl none 0 0 0 (fun _ _ => default), .i .i64 5], rfl, ⟨_, by rw [limE_big (by omega)]; rfl, by rw [limV_big (by omega)]; exact Nats.nil⟩, tup2_ok ⟨Nat.le_refl _, by simp [maxLen], .inl rfl⟩ trivial, hbel⟩
theorem natPow2C (k : Int) (ha : Nats sa a) (hm : (a : Int) < pw 256) : Contract F Tryz.prog 25 [sa, .i .i64 k] (numRes (powE a k) (powV a k)) := by
  unfold powE powV
  by_cases h : k < 0 ∨ 65536 < k
  · rw [if_pos h, if_pos h]
    exact natPowErrC F k ha h
  · rw [if_neg h, if_neg h]
    obtain ⟨k', rfl⟩ : ∃ k' : Nat, k = k' := ⟨k.toNat, by omega⟩
    rw [Int.toNat_natCast]
    rcases Nat.eq_zero_or_pos a with h0 | h0
    · subst h0
      have hlt : ((0 ^ k' : Nat) : Int) < pw 256 := by
        refine Int.lt_of_le_of_lt (b := 1) ?_ (lt_pw (m := 1) (a := 1) (by decide) (by decide))
        rcases Nat.eq_zero_or_pos k' with h2 | h2
        · subst h2; decide
        · rw [Nat.zero_pow h2]; decide
      rw [limE_ok hlt, limV_ok hlt]
      exact pow0C F k' ha (by omega)
    · exact natPowKC F k' ha h0 hm (by omega)
theorem refPow2C (k : Int) (ha : Nats sa a) (hm : (a : Int) < pw 256) : Contract F Tryz.prog 26 [sa, .i .i64 k] (numRes (powE a k) (powV a k)) := by
  unfold powE powV
  by_cases h : k < 0 ∨ 65536 < k
  · rw [if_pos h, if_pos h]
    exact refPowErrC F k ha h
  · rw [if_neg h, if_neg h]
    obtain ⟨k', rfl⟩ : ∃ k' : Nat, k = k' := ⟨k.toNat, by omega⟩
    rw [Int.toNat_natCast]
    exact refPowKC F ha hm (by omega)
set_option maxRecDepth 100000 in
theorem refChooseErrC (n0 k0 : Int) (h : n0 < 0 ∨ 1024 < n0 ∨ k0 < 0 ∨ 1024 < k0) : Contract F Tryz.prog 28 [.i .i64 n0, .i .i64 k0] (numRes 1 0) := by
  refine contract_of Tryz.func28 rfl (by kernel_rfl) ?_
  simp only [Tryz.ntmps28, argEnv]
  (repeat refine Sat.seq ?_)
  (refine Sat.region_k fun k hk => ?_; simp -implicitDefEqProofs only [evr, id, reduceCtorEq, reduceIte, Nat.reduceMul, Nat.reduceAdd, Nat.reduceLT, Nat.reduceLeDiff, Nat.reduceEqDiff, Int.reduceLT, Int.reduceBEq, Int.reduceBNe, Nat.reduceBEq, frS, evn]; refine hk _ ?_; clear hk k; try show Sat _ _ _ _ _)
  (repeat refine Sat.seq ?_)
  refine Sat.region_at ⟨45, [(21, .b true)], []⟩ (fun k hk => ?_) ?_
  · simp -implicitDefEqProofs only [evr, id, reduceCtorEq, reduceIte, Nat.reduceMul, Nat.reduceAdd, Nat.reduceLT, Nat.reduceLeDiff, Nat.reduceEqDiff, Int.reduceLT, Int.reduceBEq, Int.reduceBNe, Nat.reduceBEq, frS, evn]
    refine ⟨fun h9 => ?_, fun h9 => ⟨fun h8 => ?_, fun h8 => ⟨fun h7 => ?_, fun h7 => ?_⟩⟩⟩
    · refine hk _ ?_
      simp -implicitDefEqProofs only [evr, id, reduceCtorEq, reduceIte, Nat.reduceMul, Nat.reduceAdd, Nat.reduceLT, Nat.reduceLeDiff, Nat.reduceEqDiff, Int.reduceLT, Int.reduceBEq, Int.reduceBNe, Nat.reduceBEq, frS, evl, evn]
      try exact h9
    · refine hk _ ?_
      simp -implicitDefEqProofs only [evr, id, reduceCtorEq, reduceIte, Nat.reduceMul, Nat.reduceAdd, Nat.reduceLT, Nat.reduceLeDiff, Nat.reduceEqDiff, Int.reduceLT, Int.reduceBEq, Int.reduceBNe, Nat.reduceBEq, frS, evl, evn]
      try exact h8
    · refine hk _ ?_
      simp -implicitDefEqProofs only [evr, id, reduceCtorEq, reduceIte, Nat.reduceMul, Nat.reduceAdd, Nat.reduceLT, Nat.reduceLeDiff, Nat.reduceEqDiff, Int.reduceLT, Int.reduceBEq, Int.reduceBNe, Nat.reduceBEq, frS, evl, evn]
      try exact h7
    · refine hk _ ?_
      rw [decide_eq_true (show 1024 < k0 by omega)]
      simp -implicitDefEqProofs only [evr, id, reduceCtorEq, reduceIte, Nat.reduceMul, Nat.reduceAdd, Nat.reduceLT, Nat.reduceLeDiff, Nat.reduceEqDiff, Int.reduceLT, Int.reduceBEq, Int.reduceBNe, Nat.reduceBEq, frS, evl, evn]
  simp only [thenK]
  refine Sat.cond_b rfl (fun _ => ?_) (fun h => by cases h)
  (repeat refine Sat.seq ?_)
  (refine Sat.region_k fun k hk => ?_; simp -implicitDefEqProofs only [evr, id, reduceCtorEq, reduceIte, Nat.reduceMul, Nat.reduceAdd, Nat.reduceLT, Nat.reduceLeDiff, Nat.reduceEqDiff, Int.reduceLT, Int.reduceBEq, Int.reduceBNe, Nat.reduceBEq, frS, evn]; refine hk _ ?_; clear hk k; try show Sat _ _ _ _ _)
  refine Sat.ret ?_
  simp only [Tryz.results28, evr, id, reduceCtorEq, reduceIte, Nat.reduceMul, Nat.reduceAdd, Nat.reduceLT, Nat.reduceLeDiff, Nat.reduceEqDiff, Int.reduceLT, Int.reduceBEq, Int.reduceBNe, Nat.reduceBEq, List.append_nil, Int.toNat_zero, Nat.sub_self, frS]
  exact ⟨_, rfl, Nats.nil⟩
set_option maxRecDepth 100000 in
theorem natChooseErrC (n0 k0 : Int) (h : n0 < 0 ∨ 1024 < n0 ∨ k0 < 0 ∨ 1024 < k0) : Contract F Tryz.prog 27 [.i .i64 n0, .i .i64 k0] (numRes 1 0) := by
  refine contract_of Tryz.func27 rfl (by kernel_rfl) ?_
  simp only [Tryz.ntmps27, argEnv]
  (repeat refine Sat.seq ?_)
  (refine Sat.region_k fun k hk => ?_; simp -implicitDefEqProofs only [evr, id, reduceCtorEq, reduceIte, Nat.reduceMul, Nat.reduceAdd, Nat.reduceLT, Nat.reduceLeDiff, Nat.reduceEqDiff, Int.reduceLT, Int.reduceBEq, Int.reduceBNe, Nat.reduceBEq, frS, evn]; refine hk _ ?_; clear hk k; try show Sat _ _ _ _ _)
  (repeat refine Sat.seq ?_)
  refine Sat.region_at ⟨53, [(23, .b true)], []⟩ (fun k hk => ?_) ?_
  · simp -implicitDefEqProofs only [evr, id, reduceCtorEq, reduceIte, Nat.reduceMul, Nat.reduceAdd, Nat.reduceLT, Nat.reduceLeDiff, Nat.reduceEqDiff, Int.reduceLT, Int.reduceBEq, Int.reduceBNe, Nat.reduceBEq, frS, evn]
    refine ⟨fun h9 => ?_, fun h9 => ⟨fun h8 => ?_, fun h8 => ⟨fun h7 => ?_, fun h7 => ?_⟩⟩⟩
    · refine hk _ ?_
      simp -implicitDefEqProofs only [evr, id, reduceCtorEq, reduceIte, Nat.reduceMul, Nat.reduceAdd, Nat.reduceLT, Nat.reduceLeDiff, Nat.reduceEqDiff, Int.reduceLT, Int.reduceBEq, Int.reduceBNe, Nat.reduceBEq, frS, evl, evn]
      try exact h9
    · refine hk _ ?_
      simp -implicitDefEqProofs only [evr, id, reduceCtorEq, reduceIte, Nat.reduceMul, Nat.reduceAdd, Nat.reduceLT, Nat.reduceLeDiff, Nat.reduceEqDiff, Int.reduceLT, Int.reduceBEq, Int.reduceBNe, Nat.reduceBEq, frS, evl, evn]
      try exact h8
    · refine hk _ ?_
      simp -implicitDefEqProofs only [evr, id, reduceCtorEq, reduceIte, Nat.reduceMul, Nat.reduceAdd, Nat.reduceLT, Nat.reduceLeDiff, Nat.reduceEqDiff, Int.reduceLT, Int.reduceBEq, Int.reduceBNe, Nat.reduceBEq, frS, evl, evn]
      try exact h7
    · refine hk _ ?_
      rw [decide_eq_true (show 1024 < k0 by omega)]
      simp -implicitDefEqProofs only [evr, id, reduceCtorEq, reduceIte, Nat.reduceMul, Nat.reduceAdd, Nat.reduceLT, Nat.reduceLeDiff, Nat.reduceEqDiff, Int.reduceLT, Int.reduceBEq, Int.reduceBNe, Nat.reduceBEq, frS, evl, evn]
  simp only [thenK]
  refine Sat.cond_b rfl (fun _ => ?_) (fun h => by cases h)
  (repeat refine Sat.seq ?_)
  (refine Sat.region_k fun k hk => ?_; simp -implicitDefEqProofs only [evr, id, reduceCtorEq, reduceIte, Nat.reduceMul, Nat.reduceAdd, Nat.reduceLT, Nat.reduceLeDiff, Nat.reduceEqDiff, Int.reduceLT, Int.reduceBEq, Int.reduceBNe, Nat.reduceBEq, frS, evn]; refine hk _ ?_; clear hk k; try show Sat _ _ _ _ _)
  refine Sat.ret ?_
  simp only [Tryz.results27, evr, id, reduceCtorEq, reduceIte, Nat.reduceMul, Nat.reduceAdd, Nat.reduceLT, Nat.reduceLeDiff, Nat.reduceEqDiff, Int.reduceLT, Int.reduceBEq, Int.reduceBNe, Nat.reduceBEq, List.append_nil, Int.toNat_zero, Nat.sub_self, frS]
  exact ⟨_, rfl, Nats.nil⟩
theorem natChoose2C (n k : Int) : Contract F Tryz.prog 27 [.i .i64 n, .i .i64 k] (numRes (chE n k) (chV n k)) := by
  unfold chE chV
  by_cases h : n < 0 ∨ 1024 < n ∨ k < 0 ∨ 1024 < k
  · rw [if_pos h, if_pos h]
    exact natChooseErrC F n k h
  · rw [if_neg h, if_neg h]
    obtain ⟨k', rfl⟩ : ∃ k' : Nat, k = k' := ⟨k.toNat, by omega⟩
    obtain ⟨n', rfl⟩ : ∃ n' : Nat, n = n' := ⟨n.toNat, by omega⟩
    exact chooseC F n' k' (by omega) (by omega)
theorem refChoose2C (n k : Int) : Contract F Tryz.prog 28 [.i .i64 n, .i .i64 k] (numRes (chE n k) (chV n k)) := by
  unfold chE chV
  by_cases h : n < 0 ∨ 1024 < n ∨ k < 0 ∨ 1024 < k
  · rw [if_pos h, if_pos h]
    exact refChooseErrC F n k h
  · rw [if_neg h, if_neg h]
    obtain ⟨k', rfl⟩ : ∃ k' : Nat, k = k' := ⟨k.toNat, by omega⟩
    obtain ⟨n', rfl⟩ : ∃ n' : Nat, n = n' := ⟨n.toNat, by omega⟩
    exact refChooseKC F n' k' (by omega) (by omega)
end
end Go.Proofs.YtabgkfjfmjdfiaaGreatDoor


/- Choices of numbers and fractions: Codes.Natural, Codes.Fraction: what each gives. -/
namespace Go.Proofs.YtabgkfjfmjdfiaaGreatDoor
open Eng Lmb Go.RowKit
theorem limb_choice (u v : Int) (hu : 0 ≤ u) (hv : 0 ≤ v) : ∀ y : Nat, y < 5 → ∃ x : Int, rdL [SV.i .i64 0, SV.i .i64 1, SV.i .i64 1073741823, SV.i .i64 u, SV.i .i64 v] 1 y 0 = .i .i64 x ∧ 0 ≤ x := by
  intro y hy
  rcases (show y = 0 ∨ y = 1 ∨ y = 2 ∨ y = 3 ∨ y = 4 by omega) with rfl | rfl | rfl | rfl | rfl
  · exact ⟨0, rfl, by decide⟩
  · exact ⟨1, rfl, by decide⟩
  · exact ⟨1073741823, rfl, by decide⟩
  · exact ⟨u, rfl, hu⟩
  · exact ⟨v, rfl, hv⟩
def NatPost (n : Nat) (r : SV) : Prop := ∃ m, Nats r m ∧ (m : Int) < pw n
set_option maxRecDepth 100000 in
theorem naturalC (cb : Nat) (n : Nat) (hn : n ≤ 100) : Contract (Frm.codes cb) Tryz.prog 7 [ptr cb, .i .i64 n] (NatPost n) := by
  refine contract_of Tryz.func7 rfl (by kernel_rfl) ?_
  simp only [Tryz.ntmps7, argEnv]
  have e1 : IntKind.i64.wrap ((n : Int) + 1) = ((n + 1 : Nat) : Int) := by rw [w64 (by omega)]; omega
  (repeat refine Sat.seq ?_)
  (refine Sat.region_k fun k hk => ?_; simp -implicitDefEqProofs only [evr, id, reduceCtorEq, reduceIte, Nat.reduceMul, Nat.reduceAdd, Nat.reduceLT, Nat.reduceLeDiff, Nat.reduceEqDiff, Int.reduceLT, Int.reduceBEq, Int.reduceBNe, Nat.reduceBEq, frS, ptr, evn]; refine hk _ ?_; clear hk k; try show Sat _ _ _ _ _)
  (repeat refine Sat.seq ?_)
  (refine Sat.region_k fun k hk => ?_; simp -implicitDefEqProofs only [evr, id, reduceCtorEq, reduceIte, Nat.reduceMul, Nat.reduceAdd, Nat.reduceLT, Nat.reduceLeDiff, Nat.reduceEqDiff, Int.reduceLT, Int.reduceBEq, Int.reduceBNe, Nat.reduceBEq, frS, ptr, evn]; refine hk _ ?_; clear hk k; try show Sat _ _ _ _ _)
  (repeat refine Sat.seq ?_)
  refine Sat.region_k fun k hk => ?_
  simp -implicitDefEqProofs only [evr, id, reduceCtorEq, reduceIte, Nat.reduceMul, Nat.reduceAdd, Nat.reduceLT, Nat.reduceLeDiff, Nat.reduceEqDiff, Int.reduceLT, Int.reduceBEq, Int.reduceBNe, Nat.reduceBEq, frS, ptr, e1, evn]
  refine wcall_plain (nextC cb ((n + 1 : Nat) : Int) (by omega) (by omega)) rfl (by rintro _ ⟨x, rfl, _⟩; exact ok_plain rfl) ?_
  rintro r ⟨x, rfl, hx0, hx1⟩
  obtain ⟨t, rfl⟩ := Int.eq_ofNat_of_zero_le hx0
  have ht : t ≤ n := by omega
  simp -implicitDefEqProofs only [evr, id, reduceCtorEq, reduceIte, Nat.reduceMul, Nat.reduceAdd, Nat.reduceLT, Nat.reduceLeDiff, Nat.reduceEqDiff, Int.reduceLT, Int.reduceBEq, Int.reduceBNe, Nat.reduceBEq, frS, ptr, evn]
  (refine hk _ ?_; clear hk k; try show Sat _ _ _ _ _)
  (repeat refine Sat.seq ?_)
  refine Sat.block ?_
  refine Sat.adopt 5 3 1 (fun p _ => .i .i64 (([] : List Int).getD p 0)) rfl ?_
  refine Sat.loop (ι := Nat × List Int × Option Addr × Nat) (fun x => ⟨34, [(6, .i .i64 (x.1 : Int)), (5, .os 0 x.2.2.1 x.2.1.length x.2.2.2), (0, ptr cb)], [.row x.2.2.1 3 x.2.1.length x.2.2.2 1 (fun p _ => .i .i64 (x.2.1.getD p 0))]⟩)
    (fun x => Limbs x.2.1 ∧ x.1 + x.2.1.length ≤ n) (fun x => x.1) (t, [], none, 0) ⟨limbs_nil, by simpa using ht⟩ (by simp -implicitDefEqProofs only [evr, id, reduceCtorEq, reduceIte, Nat.reduceMul, Nat.reduceAdd, Nat.reduceLT, Nat.reduceLeDiff, Nat.reduceEqDiff, Int.reduceLT, Int.reduceBEq, Int.reduceBNe, Nat.reduceBEq, frS, ptr, evl, evn]; try rfl) ?_
  rintro ⟨q, xs, a, c⟩ ⟨hlim, hlen⟩
  simp only at hlim hlen ⊢
  (repeat refine Sat.seq ?_)
  (refine Sat.region_k fun k hk => ?_; simp -implicitDefEqProofs only [evr, id, reduceCtorEq, reduceIte, Nat.reduceMul, Nat.reduceAdd, Nat.reduceLT, Nat.reduceLeDiff, Nat.reduceEqDiff, Int.reduceLT, Int.reduceBEq, Int.reduceBNe, Nat.reduceBEq, frS, ptr, evn]; refine hk _ ?_; clear hk k; try show Sat _ _ _ _ _)
  (repeat refine Sat.seq ?_)
  refine Sat.cond_b rfl (fun h => ?_) (fun h => ?_)
  · have hq : 0 < q := by have := of_decide_eq_true h; omega
    have eq1 : IntKind.i64.wrap ((q : Int) - 1) = ((q - 1 : Nat) : Int) := by rw [w64 (by omega)]; omega
    refine Sat.skip ?_
    simp only [thenK]
    (repeat refine Sat.seq ?_)
    refine Sat.block ?_
    (repeat refine Sat.seq ?_)
    (refine Sat.region_k fun k hk => ?_; simp -implicitDefEqProofs only [evr, id, reduceCtorEq, reduceIte, Nat.reduceMul, Nat.reduceAdd, Nat.reduceLT, Nat.reduceLeDiff, Nat.reduceEqDiff, Int.reduceLT, Int.reduceBEq, Int.reduceBNe, Nat.reduceBEq, frS, ptr, evn])
    refine wcall_plain (nextC cb 256 (by decide) (by decide)) rfl (by rintro _ ⟨x, rfl, _⟩; exact ok_plain rfl) ?_
    rintro r ⟨u, rfl, hu0, hu1⟩
    simp -implicitDefEqProofs only [evr, id, reduceCtorEq, reduceIte, Nat.reduceMul, Nat.reduceAdd, Nat.reduceLT, Nat.reduceLeDiff, Nat.reduceEqDiff, Int.reduceLT, Int.reduceBEq, Int.reduceBNe, Nat.reduceBEq, frS, ptr, evn]
    refine wcall_plain (nextC cb 65536 (by decide) (by decide)) rfl (by rintro _ ⟨x, rfl, _⟩; exact ok_plain rfl) ?_
    rintro r ⟨v, rfl, hv0, hv1⟩
    simp -implicitDefEqProofs only [evr, id, reduceCtorEq, reduceIte, Nat.reduceMul, Nat.reduceAdd, Nat.reduceLT, Nat.reduceLeDiff, Nat.reduceEqDiff, Int.reduceLT, Int.reduceBEq, Int.reduceBNe, Nat.reduceBEq, frS, ptr, evn]
    refine wcall_plain (nextC cb 16000 (by decide) (by decide)) rfl (by rintro _ ⟨x, rfl, _⟩; exact ok_plain rfl) ?_
    rintro r ⟨w, rfl, hw0, hw1⟩
    have e2 : IntKind.i64.wrap (1 + w) = 1 + w := w64 (by omega)
    have hvw : 0 ≤ v * (1 + w) := Int.mul_nonneg hv0 (by omega)
    have hvw2 : v * (1 + w) ≤ 65536 * 16001 := Int.mul_le_mul (by omega) (by omega) (by omega) (by omega)
    have e3 : IntKind.i64.wrap (v * (1 + w)) = v * (1 + w) := w64 (by omega)
    simp -implicitDefEqProofs only [evr, id, reduceCtorEq, reduceIte, Nat.reduceMul, Nat.reduceAdd, Nat.reduceLT, Nat.reduceLeDiff, Nat.reduceEqDiff, Int.reduceLT, Int.reduceBEq, Int.reduceBNe, Nat.reduceBEq, frS, ptr, e2, e3, evn]
    intro blk
    refine wcall_plain (nextC cb 5 (by decide) (by decide)) rfl (by rintro _ ⟨x, rfl, _⟩; exact ok_plain rfl) ?_
    rintro r ⟨y0, rfl, hy0, hy1⟩
    obtain ⟨y, rfl⟩ := Int.eq_ofNat_of_zero_le hy0
    obtain ⟨xl, hxl, hxl0⟩ := limb_choice u (v * (1 + w)) hu0 hvw y (by omega)
    have em : xl.tmod 1073741824 = xl % 1073741824 := Int.tmod_eq_emod_of_nonneg hxl0
    simp -implicitDefEqProofs only [evr, id, reduceCtorEq, reduceIte, Nat.reduceMul, Nat.reduceAdd, Nat.reduceLT, Nat.reduceLeDiff, Nat.reduceEqDiff, Int.reduceLT, Int.reduceBEq, Int.reduceBNe, Nat.reduceBEq, frS, ptr, evn]
    refine ⟨by omega, by omega, ?_⟩
    rw [hxl]
    simp -implicitDefEqProofs only [evr, id, reduceCtorEq, reduceIte, Nat.reduceMul, Nat.reduceAdd, Nat.reduceLT, Nat.reduceLeDiff, Nat.reduceEqDiff, Int.reduceLT, Int.reduceBEq, Int.reduceBNe, Nat.reduceBEq, frS, ptr, em, evn]
    refine ⟨by decide, fun blk2 => ?_⟩
    refine ⟨⟨by unfold maxLen; omega, by omega⟩, fun a2 cap2 => ?_⟩
    refine hk _ ?_
    clear hk k
    simp only [thenK, blockK]
    (repeat refine Sat.seq ?_)
    refine Sat.region_k fun k hk => ?_
    simp -implicitDefEqProofs only [evr, id, reduceCtorEq, reduceIte, Nat.reduceMul, Nat.reduceAdd, Nat.reduceLT, Nat.reduceLeDiff, Nat.reduceEqDiff, Int.reduceLT, Int.reduceBEq, Int.reduceBNe, Nat.reduceBEq, frS, ptr, eq1, evn]
    refine hk _ ?_
    simp only [thenK, blockK]
    refine ⟨(q - 1, xs ++ [xl % 1073741824], a2, cap2), ⟨limbs_append.2 ⟨hlim, limbs_cons.2 ⟨by omega, limbs_nil⟩⟩, by simp; omega⟩, by show q - 1 < q; omega, ?_⟩
    simp -implicitDefEqProofs only [evr, id, reduceCtorEq, reduceIte, Nat.reduceMul, Nat.reduceAdd, Nat.reduceLT, Nat.reduceLeDiff, Nat.reduceEqDiff, Int.reduceLT, Int.reduceBEq, Int.reduceBNe, Nat.reduceBEq, frS, ptr, evl, evn]
    simp only [List.length_append, List.length_cons, List.length_nil]
    exact ⟨trivial, trivial, rd_snoc rfl rfl⟩
  · have hq : q = 0 := by have := of_decide_eq_false h; omega
    subst hq
    refine Sat.exit ?_
    simp only [thenK, blockK, reduceIte]
    (repeat refine Sat.seq ?_)
    (refine Sat.region_k fun k hk => ?_; simp -implicitDefEqProofs only [evr, id, reduceCtorEq, reduceIte, Nat.reduceMul, Nat.reduceAdd, Nat.reduceLT, Nat.reduceLeDiff, Nat.reduceEqDiff, Int.reduceLT, Int.reduceBEq, Int.reduceBNe, Nat.reduceBEq, frS, ptr, evn])
    refine wcall_slice (refTrimC (Frm.codes cb) (s := .sl a xs.length c 1 (fun p _ => .i .i64 (xs.getD p 0))) ⟨a, c, 1, _, rfl, .inr rfl, fun p _ => rfl⟩ hlim) (by simp -implicitDefEqProofs only [evr, id, reduceCtorEq, reduceIte, Nat.reduceMul, Nat.reduceAdd, Nat.reduceLT, Nat.reduceLeDiff, Nat.reduceEqDiff, Int.reduceLT, Int.reduceBEq, Int.reduceBNe, Nat.reduceBEq, frS, ptr, evn]; try rfl) (by simp -implicitDefEqProofs only [evr, id, reduceCtorEq, reduceIte, Nat.reduceMul, Nat.reduceAdd, Nat.reduceLT, Nat.reduceLeDiff, Nat.reduceEqDiff, Int.reduceLT, Int.reduceBEq, Int.reduceBNe, Nat.reduceBEq, frS, ptr, evn]; try rfl) ?_
    intro z hz
    have hz1 := hz
    obtain ⟨a8, c8, z8, r8, x8, rfl, _⟩ := hz
    simp -implicitDefEqProofs only [evr, id, reduceCtorEq, reduceIte, Nat.reduceMul, Nat.reduceAdd, Nat.reduceLT, Nat.reduceLeDiff, Nat.reduceEqDiff, Int.reduceLT, Int.reduceBEq, Int.reduceBNe, Nat.reduceBEq, frS, ptr, evn]
    (refine hk _ ?_; clear hk k; try show Sat _ _ _ _ _)
    refine Sat.ret ?_
    simp only [Tryz.results7, evr, id, reduceCtorEq, reduceIte, Nat.reduceMul, Nat.reduceAdd, Nat.reduceLT, Nat.reduceLeDiff, Nat.reduceEqDiff, Int.reduceLT, Int.reduceBEq, Int.reduceBNe, Nat.reduceBEq, List.append_nil, Int.toNat_zero, Nat.sub_self, frS, ptr]
    refine ⟨_, hz1, ?_⟩
    rw [Int.toNat_of_nonneg (val_nonneg hlim)]
    have h1 := val_lt hlim
    have h2 := pw_mono (show xs.length ≤ n by omega)
    omega
end Go.Proofs.YtabgkfjfmjdfiaaGreatDoor
