/- The example of the chapter, by the evaluator: awake of law 32. -/
import Derived.Test.YtepkbbmjbbnhnaaGreatDoorAwrM
set_option linter.unusedSimpArgs false
set_option linter.unusedVariables false
namespace Go.Proofs.YtepkbbmjbbnhnaaGreatDoor
open Go.Sort Eng
theorem aw1_e : eOk aw1 := by unfold eOk; decide
theorem aw2_e : eOk aw2 := by unfold eOk; decide
theorem aw_es1 : esOk [aw1] := fun e he => by rw [List.mem_singleton.1 he]; exact aw1_e
theorem aw_es2 : esOk [aw1, aw2] := fun e he => by
  rcases List.mem_cons.1 he with rfl | he
  · exact aw1_e
  · rw [List.mem_singleton.1 he]; exact aw2_e
theorem aw_ow (l : List Owd) (h : l = [⟨5, 0, 50⟩, ⟨7, 50, 80⟩, ⟨5, 80, 100⟩, ⟨0, 100, 1125899906842624⟩]) : aggEq Tryz.prog 51 3 (fun j => owRd l 1 j) 3 (fun j => [SV.i .i64 7, SV.i .i64 50, SV.i .i64 80].getD j default) = some true := by subst h; kernel_rfl
set_option maxRecDepth 100000 in
theorem aw_s : ((mkB "10.0.0.0/8 5 0 100\n10.1.0.0/16 7 50 80\n".toUTF8.data.toList).toList == (⟨#[49, 48, 46, 48, 46, 48, 46, 48, 47, 56, 32, 53, 32, 48, 32, 49, 48, 48, 10, 49, 48, 46, 49, 46, 48, 46, 48, 47, 49, 54, 32, 55, 32, 53, 48, 32, 56, 48, 10]⟩ : ByteArray).toList) = true := by
  rw [mkB_toList, ByteArray.toList_eq]
  decide +kernel
set_option maxRecDepth 100000 in
theorem awakeC : Contract FrA Tryz.prog 6 [] (fun r => r = .b true) := by
  refine contract_of Tryz.func6 rfl (by kernel_rfl) ?_
  simp only [Tryz.ntmps6, argEnv]
  (repeat refine Sat.seq ?_)
  (refine Sat.region_k fun k hk => ?_; simp -implicitDefEqProofs only [evr, id, seval, Nat.sub_zero, regS, entS, Ent.cs, tupL, evn]; refine hk _ ?_; clear hk k; try show Sat _ _ _ _ _)
  (repeat refine Sat.seq ?_)
  (refine Sat.region_k fun k hk => ?_; simp -implicitDefEqProofs only [evr, id, seval, Nat.sub_zero, regS, entS, Ent.cs, tupL, evn])
  refine wcall_slice ((addC FrA none 0 [] (fun e he => by cases he) (by decide) aw1 aw1_e).of_sim (args := [.agg 1 fun j => [SV.sl none 0 0 0 fun _ _ => .v undef].getD j default, entS aw1]) ⟨sim_agg1 (f := fun j => [SV.sl none 0 0 0 fun _ _ => .v undef].getD j default) (g := fun j => [SV.sl none 0 0 5 (entRd [])].getD j default) (sim_nil _ _ _ _), sim_refl _, trivial⟩) rfl (by simp -implicitDefEqProofs only [evr, id, seval, Nat.sub_zero, regS, entS, Ent.cs, tupL, evn]; rfl) ?_
  rintro r ⟨a1, c1, rfl⟩
  rw [aw_add1]
  simp -implicitDefEqProofs only [evr, id, seval, Nat.sub_zero, regS, entS, Ent.cs, tupL, evn]
  intro b1
  (refine hk _ ?_; clear hk k; try show Sat _ _ _ _ _)
  (repeat refine Sat.seq ?_)
  (refine Sat.region_k fun k hk => ?_; simp -implicitDefEqProofs only [evr, id, seval, Nat.sub_zero, regS, entS, Ent.cs, tupL, evn])
  refine wcall_slice (addC FrA a1 c1 [aw1] aw_es1 (by decide) aw2 aw2_e) rfl (by simp -implicitDefEqProofs only [evr, id, seval, Nat.sub_zero, regS, entS, Ent.cs, tupL, evn]; first | done | rfl) ?_
  rintro r ⟨a2, c2, rfl⟩
  rw [aw_add2]
  simp -implicitDefEqProofs only [evr, id, seval, Nat.sub_zero, regS, entS, Ent.cs, tupL, evn]
  (refine hk _ ?_; clear hk k; try show Sat _ _ _ _ _)
  (repeat refine Sat.seq ?_)
  (refine Sat.region_k fun k hk => ?_; simp -implicitDefEqProofs only [evr, id, seval, Nat.sub_zero, regS, entS, Ent.cs, tupL, evn]; refine hk _ ?_; clear hk k; try show Sat _ _ _ _ _)
  (repeat refine Sat.seq ?_)
  (refine Sat.region_k fun k hk => ?_; simp -implicitDefEqProofs only [evr, id, seval, Nat.sub_zero, regS, entS, Ent.cs, tupL, evn])
  refine wcall_slice (historyC FrA ⟨a2, c2, [aw1, aw2]⟩ aw_es2 (show 2 ≤ 1000000 by decide) 167837697 (by decide)) rfl (by simp -implicitDefEqProofs only [evr, id, seval, Nat.sub_zero, regS, entS, Ent.cs, tupL, RgP.s, evn]; first | done | rfl) ?_
  rintro r ⟨a3, c3, rfl⟩
  have hh := aw_his ⟨a2, c2, [aw1, aw2]⟩ rfl
  have hl : (histL 167837697 ⟨a2, c2, [aw1, aw2]⟩).length = 4 := by rw [hh]; rfl
  have ho := aw_ow _ hh
  rw [hl]
  generalize histL 167837697 ⟨a2, c2, [aw1, aw2]⟩ = hs at *
  simp -implicitDefEqProofs only [evr, id, seval, Nat.sub_zero, regS, entS, Ent.cs, tupL, evn]
  (refine hk _ ?_; clear hk k; try show Sat _ _ _ _ _)
  (repeat refine Sat.seq ?_)
  (refine Sat.region_k fun k hk => ?_; simp -implicitDefEqProofs only [evr, id, seval, Nat.sub_zero, regS, entS, Ent.cs, tupL, evn])
  refine wcall_plain (formatRC a2 c2 [aw1, aw2] aw_es2) (by simp -implicitDefEqProofs only [evr, id, seval, Nat.sub_zero, regS, entS, Ent.cs, tupL, evn]; first | done | rfl) (by rintro _ rfl; exact ok_tupL rfl) ?_
  rintro r rfl
  rw [aw_fmt]
  simp -implicitDefEqProofs only [evr, id, seval, Nat.sub_zero, regS, entS, Ent.cs, tupL, evn]
  (refine hk _ ?_; clear hk k; try show Sat _ _ _ _ _)
  (repeat refine Sat.seq ?_)
  (refine Sat.region_k fun k hk => ?_; simp -implicitDefEqProofs only [evr, id, seval, Nat.sub_zero, regS, entS, Ent.cs, tupL, evn])
  refine wcall_plain (providerC FrA a2 c2 [aw1, aw2] aw_es2 (by decide) 167837697 (by decide) 49) (by simp -implicitDefEqProofs only [evr, id, seval, Nat.sub_zero, regS, entS, Ent.cs, tupL, evn]; first | done | rfl) (by rintro _ rfl; exact ok_plain rfl) ?_
  rintro r rfl
  simp only [aw_p1, evr, id, seval, List.append_nil, Int.toNat_zero, Nat.sub_self, Nat.sub_zero, regS, entS, Ent.cs, tupL]
  refine wcall_plain (providerC FrA a2 c2 [aw1, aw2] aw_es2 (by decide) 167837697 (by decide) 50) (by simp -implicitDefEqProofs only [evr, id, seval, Nat.sub_zero, regS, entS, Ent.cs, tupL, evn]; first | done | rfl) (by rintro _ rfl; exact ok_plain rfl) ?_
  rintro r rfl
  simp only [aw_p2, evr, id, seval, List.append_nil, Int.toNat_zero, Nat.sub_self, Nat.sub_zero, regS, entS, Ent.cs, tupL]
  refine wcall_plain (providerC FrA a2 c2 [aw1, aw2] aw_es2 (by decide) 167837697 (by decide) 100) (by simp -implicitDefEqProofs only [evr, id, seval, Nat.sub_zero, regS, entS, Ent.cs, tupL, evn]; first | done | rfl) (by rintro _ rfl; exact ok_plain rfl) ?_
  rintro r rfl
  simp only [aw_p3, ho, aw_s, evr, id, seval, List.append_nil, Int.toNat_zero, Nat.sub_self, Nat.sub_zero, regS, entS, Ent.cs, tupL]
  refine wcall_plain (regValidC FrA a2 c2 [aw1, aw2] aw_es2) (by simp -implicitDefEqProofs only [evr, id, seval, Nat.sub_zero, regS, entS, Ent.cs, tupL, evn]; first | done | rfl) (by rintro _ rfl; exact ok_plain rfl) ?_
  rintro r rfl
  simp only [decide_eq_true aw_ok, evr, id, seval, List.append_nil, Int.toNat_zero, Nat.sub_self, Nat.sub_zero, regS, entS, Ent.cs, tupL]
  (refine hk _ ?_; clear hk k; try show Sat _ _ _ _ _)
  refine Sat.ret ?_
  simp only [Tryz.results6, evr, id, seval, List.append_nil, Int.toNat_zero, Nat.sub_self, Nat.sub_zero, regS, entS, Ent.cs, tupL]
end Go.Proofs.YtepkbbmjbbnhnaaGreatDoor
