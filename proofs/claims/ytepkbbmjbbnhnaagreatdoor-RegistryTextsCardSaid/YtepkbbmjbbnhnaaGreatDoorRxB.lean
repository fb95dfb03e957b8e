/- strings.Cut at a byte. -/
import Derived.Test.YtepkbbmjbbnhnaaGreatDoorRxA
set_option linter.unusedSimpArgs false
set_option linter.unusedVariables false
namespace Go.Proofs.YtepkbbmjbbnhnaaGreatDoor
open Go.RowKit Eng
set_option maxRecDepth 100000 in
theorem slCutC2 (F : Frm) (c : UInt8) (s : ByteArray) (n : Nat) (hn : Lib.indexByte s.data.toList c = (n : Int)) (hs : n < s.size) (hs2 : s.size < 4294967296) : Contract F Tryz.prog 81 [.v (.string s), .v (.string ⟨#[c]⟩)] (fun r => r = tupL [.v (.string (s.extract 0 n)), .v (.string (s.extract (n + 1) s.size)), .b true]) := by
  refine contract_of Tryz.func81 rfl (by kernel_rfl) ?_
  simp only [Tryz.ntmps81, argEnv]
  have e1 : IntKind.i64.wrap ((n : Int) + 1) = ((n + 1 : Nat) : Int) := by rw [w64 (by omega)]; omega
  (repeat refine Sat.seq ?_)
  (refine Sat.region_k fun k hk => ?_; simp -implicitDefEqProofs only [evr, id, reduceCtorEq, reduceIte, Nat.reduceMul, Nat.reduceAdd, Nat.reduceLT, Nat.reduceLeDiff, Nat.reduceEqDiff, Int.reduceLT, Int.reduceBEq, Int.reduceBNe, Nat.reduceBEq, Int.reduceNeg, evn]; refine hk _ ?_; clear hk k; try show Sat _ _ _ _ _)
  (repeat refine Sat.seq ?_)
  (refine Sat.region_k fun k hk => ?_; simp -implicitDefEqProofs only [evr, id, reduceCtorEq, reduceIte, Nat.reduceMul, Nat.reduceAdd, Nat.reduceLT, Nat.reduceLeDiff, Nat.reduceEqDiff, Int.reduceLT, Int.reduceBEq, Int.reduceBNe, Nat.reduceBEq, Int.reduceNeg, evn])
  refine wcall_plain (indexOneC F s c) rfl (by rintro _ rfl; exact ok_plain rfl) ?_
  rintro r rfl
  rw [hn]
  simp -implicitDefEqProofs only [evr, id, reduceCtorEq, reduceIte, Nat.reduceMul, Nat.reduceAdd, Nat.reduceLT, Nat.reduceLeDiff, Nat.reduceEqDiff, Int.reduceLT, Int.reduceBEq, Int.reduceBNe, Nat.reduceBEq, Int.reduceNeg, evn]
  (refine hk _ ?_; clear hk k; try show Sat _ _ _ _ _)
  (repeat refine Sat.seq ?_)
  (refine Sat.region_k fun k hk => ?_; simp -implicitDefEqProofs only [evr, id, reduceCtorEq, reduceIte, Nat.reduceMul, Nat.reduceAdd, Nat.reduceLT, Nat.reduceLeDiff, Nat.reduceEqDiff, Int.reduceLT, Int.reduceBEq, Int.reduceBNe, Nat.reduceBEq, Int.reduceNeg, evn]; refine hk _ ?_; clear hk k; try show Sat _ _ _ _ _)
  refine Sat.cond_b rfl (fun h => ?_) (fun h => absurd h (by decide))
  (repeat refine Sat.seq ?_)
  (refine Sat.region_tree (.keep [0, 1, 3, 4, 5, 6, 7] [] (.alt 2 (.free 9 (.one 8 (.one 10 (.one 11 .done)))) (.alt 8 (.one 2 (.one 9 (.one 10 (.one 11 .done)))) .none))) (by kernel_rfl) (by kernel_rfl) (fun _ _ h => h) fun k hk => ?_; simp only [WOT, List.map_cons, List.map_nil, List.getD_cons_zero, List.getD_cons_succ]; simp -implicitDefEqProofs only [evr, id, reduceCtorEq, reduceIte, Nat.reduceMul, Nat.reduceAdd, Nat.reduceLT, Nat.reduceLeDiff, Nat.reduceEqDiff, Int.reduceLT, Int.reduceBEq, Int.reduceBNe, Nat.reduceBEq, Int.reduceNeg, WOT, evn])
  have es : (((⟨#[c]⟩ : ByteArray).size : Nat) : Int) = 1 := rfl
  simp only [es, e1, Int.toNat_natCast]
  repeat' refine And.intro ?_ ?_
  all_goals first | omega | skip
  all_goals
    refine hk _ ?_
    clear hk
    try simp only [thenK]
    refine Sat.ret ?_
    simp only [Tryz.results81, evr, id, reduceCtorEq, reduceIte, Nat.reduceMul, Nat.reduceAdd, Nat.reduceLT, Nat.reduceLeDiff, Nat.reduceEqDiff, Int.reduceLT, Int.reduceBEq, Int.reduceBNe, Nat.reduceBEq, List.append_nil, Int.toNat_zero, Nat.sub_self, Int.reduceNeg]
set_option maxRecDepth 100000 in
theorem cutC2 (F : Frm) (c : UInt8) (s : ByteArray) (n : Nat) (hn : Lib.indexByte s.data.toList c = (n : Int)) (hs : n < s.size) (hs2 : s.size < 4294967296) : Contract F Tryz.prog 57 [.v (.string s), .v (.string ⟨#[c]⟩)] (fun r => r = tupL [.v (.string (s.extract 0 n)), .v (.string (s.extract (n + 1) s.size)), .b true]) := by
  refine contract_of Tryz.func57 rfl (by kernel_rfl) ?_
  simp only [Tryz.ntmps57, argEnv]
  (repeat refine Sat.seq ?_)
  (refine Sat.region_k fun k hk => ?_; simp -implicitDefEqProofs only [evr, id, reduceCtorEq, reduceIte, Nat.reduceMul, Nat.reduceAdd, Nat.reduceLT, Nat.reduceLeDiff, Nat.reduceEqDiff, Int.reduceLT, Int.reduceBEq, Int.reduceBNe, Nat.reduceBEq, Int.reduceNeg, evn]; refine hk _ ?_; clear hk k; try show Sat _ _ _ _ _)
  (repeat refine Sat.seq ?_)
  (refine Sat.region_k fun k hk => ?_; simp -implicitDefEqProofs only [evr, id, reduceCtorEq, reduceIte, Nat.reduceMul, Nat.reduceAdd, Nat.reduceLT, Nat.reduceLeDiff, Nat.reduceEqDiff, Int.reduceLT, Int.reduceBEq, Int.reduceBNe, Nat.reduceBEq, Int.reduceNeg, evn])
  refine wcall_slice (slCutC2 F c s n hn hs hs2) rfl (by simp -implicitDefEqProofs only [evr, id, reduceCtorEq, reduceIte, Nat.reduceMul, Nat.reduceAdd, Nat.reduceLT, Nat.reduceLeDiff, Nat.reduceEqDiff, Int.reduceLT, Int.reduceBEq, Int.reduceBNe, Nat.reduceBEq, Int.reduceNeg, evn]; try rfl) ?_
  rintro r rfl
  simp -implicitDefEqProofs only [evr, id, reduceCtorEq, reduceIte, Nat.reduceMul, Nat.reduceAdd, Nat.reduceLT, Nat.reduceLeDiff, Nat.reduceEqDiff, Int.reduceLT, Int.reduceBEq, Int.reduceBNe, Nat.reduceBEq, Int.reduceNeg, evn]
  (refine hk _ ?_; clear hk k; try show Sat _ _ _ _ _)
  refine Sat.ret ?_
  simp only [Tryz.results57, evr, id, reduceCtorEq, reduceIte, Nat.reduceMul, Nat.reduceAdd, Nat.reduceLT, Nat.reduceLeDiff, Nat.reduceEqDiff, Int.reduceLT, Int.reduceBEq, Int.reduceBNe, Nat.reduceBEq, List.append_nil, Int.toNat_zero, Nat.sub_self, Int.reduceNeg]
set_option maxRecDepth 100000 in
theorem slCutNoC2 (F : Frm) (c : UInt8) (s : ByteArray) (hn : Lib.indexByte s.data.toList c = -1) : Contract F Tryz.prog 81 [.v (.string s), .v (.string ⟨#[c]⟩)] (fun r => r = tupL [.v (.string s), .v (.string ⟨#[]⟩), .b false]) := by
  refine contract_of Tryz.func81 rfl (by kernel_rfl) ?_
  simp only [Tryz.ntmps81, argEnv]
  (repeat refine Sat.seq ?_)
  (refine Sat.region_k fun k hk => ?_; simp -implicitDefEqProofs only [evr, id, reduceCtorEq, reduceIte, Nat.reduceMul, Nat.reduceAdd, Nat.reduceLT, Nat.reduceLeDiff, Nat.reduceEqDiff, Int.reduceLT, Int.reduceBEq, Int.reduceBNe, Nat.reduceBEq, Int.reduceNeg, evn]; refine hk _ ?_; clear hk k; try show Sat _ _ _ _ _)
  (repeat refine Sat.seq ?_)
  (refine Sat.region_k fun k hk => ?_; simp -implicitDefEqProofs only [evr, id, reduceCtorEq, reduceIte, Nat.reduceMul, Nat.reduceAdd, Nat.reduceLT, Nat.reduceLeDiff, Nat.reduceEqDiff, Int.reduceLT, Int.reduceBEq, Int.reduceBNe, Nat.reduceBEq, Int.reduceNeg, evn])
  refine wcall_plain (indexOneC F s c) rfl (by rintro _ rfl; exact ok_plain rfl) ?_
  rintro r rfl
  rw [hn]
  simp -implicitDefEqProofs only [evr, id, reduceCtorEq, reduceIte, Nat.reduceMul, Nat.reduceAdd, Nat.reduceLT, Nat.reduceLeDiff, Nat.reduceEqDiff, Int.reduceLT, Int.reduceBEq, Int.reduceBNe, Nat.reduceBEq, Int.reduceNeg, evn]
  (refine hk _ ?_; clear hk k; try show Sat _ _ _ _ _)
  (repeat refine Sat.seq ?_)
  (refine Sat.region_k fun k hk => ?_; simp -implicitDefEqProofs only [evr, id, reduceCtorEq, reduceIte, Nat.reduceMul, Nat.reduceAdd, Nat.reduceLT, Nat.reduceLeDiff, Nat.reduceEqDiff, Int.reduceLT, Int.reduceBEq, Int.reduceBNe, Nat.reduceBEq, Int.reduceNeg, evn]; refine hk _ ?_; clear hk k; try show Sat _ _ _ _ _)
  refine Sat.cond_b rfl (fun h => absurd h (by decide)) (fun h => ?_)
  refine Sat.skip ?_
  simp only [thenK]
  (repeat refine Sat.seq ?_)
  (refine Sat.region_k fun k hk => ?_; simp -implicitDefEqProofs only [evr, id, reduceCtorEq, reduceIte, Nat.reduceMul, Nat.reduceAdd, Nat.reduceLT, Nat.reduceLeDiff, Nat.reduceEqDiff, Int.reduceLT, Int.reduceBEq, Int.reduceBNe, Nat.reduceBEq, Int.reduceNeg, evn]; refine hk _ ?_; clear hk k; try show Sat _ _ _ _ _)
  refine Sat.ret ?_
  simp only [Tryz.results81, evr, id, reduceCtorEq, reduceIte, Nat.reduceMul, Nat.reduceAdd, Nat.reduceLT, Nat.reduceLeDiff, Nat.reduceEqDiff, Int.reduceLT, Int.reduceBEq, Int.reduceBNe, Nat.reduceBEq, List.append_nil, Int.toNat_zero, Nat.sub_self, Int.reduceNeg]
set_option maxRecDepth 100000 in
theorem cutNoC2 (F : Frm) (c : UInt8) (s : ByteArray) (hn : Lib.indexByte s.data.toList c = -1) : Contract F Tryz.prog 57 [.v (.string s), .v (.string ⟨#[c]⟩)] (fun r => r = tupL [.v (.string s), .v (.string ⟨#[]⟩), .b false]) := by
  refine contract_of Tryz.func57 rfl (by kernel_rfl) ?_
  simp only [Tryz.ntmps57, argEnv]
  (repeat refine Sat.seq ?_)
  (refine Sat.region_k fun k hk => ?_; simp -implicitDefEqProofs only [evr, id, reduceCtorEq, reduceIte, Nat.reduceMul, Nat.reduceAdd, Nat.reduceLT, Nat.reduceLeDiff, Nat.reduceEqDiff, Int.reduceLT, Int.reduceBEq, Int.reduceBNe, Nat.reduceBEq, Int.reduceNeg, evn]; refine hk _ ?_; clear hk k; try show Sat _ _ _ _ _)
  (repeat refine Sat.seq ?_)
  (refine Sat.region_k fun k hk => ?_; simp -implicitDefEqProofs only [evr, id, reduceCtorEq, reduceIte, Nat.reduceMul, Nat.reduceAdd, Nat.reduceLT, Nat.reduceLeDiff, Nat.reduceEqDiff, Int.reduceLT, Int.reduceBEq, Int.reduceBNe, Nat.reduceBEq, Int.reduceNeg, evn])
  refine wcall_slice (slCutNoC2 F c s hn) rfl (by simp -implicitDefEqProofs only [evr, id, reduceCtorEq, reduceIte, Nat.reduceMul, Nat.reduceAdd, Nat.reduceLT, Nat.reduceLeDiff, Nat.reduceEqDiff, Int.reduceLT, Int.reduceBEq, Int.reduceBNe, Nat.reduceBEq, Int.reduceNeg, evn]; try rfl) ?_
  rintro r rfl
  simp -implicitDefEqProofs only [evr, id, reduceCtorEq, reduceIte, Nat.reduceMul, Nat.reduceAdd, Nat.reduceLT, Nat.reduceLeDiff, Nat.reduceEqDiff, Int.reduceLT, Int.reduceBEq, Int.reduceBNe, Nat.reduceBEq, Int.reduceNeg, evn]
  (refine hk _ ?_; clear hk k; try show Sat _ _ _ _ _)
  refine Sat.ret ?_
  simp only [Tryz.results57, evr, id, reduceCtorEq, reduceIte, Nat.reduceMul, Nat.reduceAdd, Nat.reduceLT, Nat.reduceLeDiff, Nat.reduceEqDiff, Int.reduceLT, Int.reduceBEq, Int.reduceBNe, Nat.reduceBEq, List.append_nil, Int.toNat_zero, Nat.sub_self, Int.reduceNeg]
theorem cutL (F : Frm) (c : UInt8) (l : List UInt8) (n : Nat) (hn : Lib.indexByte l c = (n : Int)) (hl : l.length < 4294967296) : Contract F Tryz.prog 57 [sB l, .v (.string ⟨#[c]⟩)] (fun r => r = tupL [sB (l.take n), sB (l.drop (n + 1)), .b true]) := by
  have hlt := (index_some hn).1
  have h := cutC2 F c (mkB l) n hn (by rw [mkB_size]; exact hlt) (by rw [mkB_size]; exact hl)
  rw [mkB_extract, mkB_extract, mkB_size, List.drop_zero, Nat.sub_zero] at h
  have e : (l.drop (n + 1)).take (l.length - (n + 1)) = l.drop (n + 1) := List.take_of_length_le (by simp)
  rw [e] at h
  exact h
theorem cutNoL (F : Frm) (c : UInt8) (l : List UInt8) (hn : Lib.indexByte l c = -1) : Contract F Tryz.prog 57 [sB l, .v (.string ⟨#[c]⟩)] (fun r => r = tupL [sB l, sB [], .b false]) := cutNoC2 F c (mkB l) hn
def parS (l : List UInt8) : SV := match parB l with
  | some a => tupL [.i .u32 (a : Nat), .i .i64 0]
  | none => tupL [.i .u32 0, .i .i64 2]
structure ParInv (l0 : List UInt8) (i : Nat) (ns : List Nat) (rest : List UInt8) : Prop where
  len : ns.length = i
  small : ∀ n ∈ ns, n ≤ 255
  fit : rest.length ≤ l0.length
  eq : i < 4 → splitB 46 l0 = ns.map Lib.decDigits ++ splitB 46 rest
  end_ : i = 4 → splitB 46 l0 = ns.map Lib.decDigits
theorem num_digs {n : Nat} (h : n ≤ 255) : numB (Lib.decDigits n) 255 = some n := numB_dig (by decide) h
theorem par_done {l0 rest : List UInt8} {ns : List Nat} (h : ParInv l0 4 ns rest) : parB l0 = some (adVal ns) := by
  have h1 := h.end_ rfl
  have h2 := h.small
  have h3 := h.len
  match ns, h3 with
  | [a, b, c, d], _ =>
    unfold parB
    rw [h1]
    simp only [List.map_cons, List.map_nil]
    rw [num_digs (h2 a (by simp)), num_digs (h2 b (by simp)), num_digs (h2 c (by simp)), num_digs (h2 d (by simp))]
theorem par_bad {l0 : List UInt8} {P : List (List UInt8)} (h : splitB 46 l0 = P) {j : Nat} {p : List UInt8} (hj : P[j]? = some p) (hp : numB p 255 = none) : parB l0 = none := by
  unfold parB
  rw [h]
  match P, hj with
  | [], hj => rfl
  | [_], _ => rfl
  | [_, _], _ => rfl
  | [_, _, _], _ => rfl
  | [a, b, c, d], hj =>
    simp only
    match j, hj with
    | 0, hj => cases hj; rw [hp]
    | 1, hj => cases hj; rw [hp]; split <;> simp_all
    | 2, hj => cases hj; rw [hp]; split <;> simp_all
    | 3, hj => cases hj; rw [hp]; split <;> simp_all
    | j + 4, hj => cases hj
  | _ :: _ :: _ :: _ :: _ :: _, _ => rfl
theorem par_len {l0 : List UInt8} (h : (splitB 46 l0).length ≠ 4) : parB l0 = none := by
  unfold parB
  split
  · rename_i hs; rw [hs] at h; exact absurd rfl h
  · rfl
end Go.Proofs.YtepkbbmjbbnhnaaGreatDoor
