import Derived.Test.YtabgkfjfmjdfiaaGreatDoorZChoose

/- natural.Add and natural.Mul where the result has too many limbs: the error. -/
set_option linter.unusedSectionVars false
set_option linter.unusedSimpArgs false
set_option linter.unusedVariables false
namespace Go.Proofs.YtabgkfjfmjdfiaaGreatDoor.Zn
open Go.RowKit Lmb
variable [Zone]
def RetLong (w : World) (e : Ending) (w' : World) : Prop := e = .returned (.tuple #[.slice none 0 0, .int .i64 5]) ∧ Below w.heap.size w w'
attribute [local go_sem] and_limb
set_option maxRecDepth 20000 in
set_option maxHeartbeats 1000000 in
theorem mul_long_lists (a b : Value) (xs ys : List Int) (w : World) (ha : Rd .i64 w a xs) (hb : Rd .i64 w b ys) (lx : Limbs xs) (ly : Limbs ys) (sx : xs.length ≤ 65536) (sy : ys.length ≤ 65536)
    (hok : ∀ os, MulOut xs ys os xs.length → 256 < (trim os).length) :
    Calls Tryz.prog 13 #[a, b] w (RetLong w) := by
  have HOK := Lib.hid hok
  clear hok
  obtain ⟨aa, ca, rfl, a1, a2, a3⟩ := ha
  obtain ⟨ab, cb, rfl, b1, b2, b3⟩ := hb
  obtain ⟨i0, hi, hz0, hz1, hz2⟩ := info_parts Tryz.infoInt
  unfold maxLen at a2 b2
  go_enter Tryz.func13, Tryz.ntmps13
  go_wp2_with (at_make; go_must (refine wpList_make_full _ rfl (.tmp 17) (.tmp 17) 24 rfl w.heap.size 3 i0 (.int .i64 0) 1 Tryz.underlying24 hi hz0 hz1 .i64 .i64 _ _ (xs.length + ys.length) rfl rfl (by omega) (by omega) ?b2 ?b3 (Nat.le_refl _) ?_))
  case b2 => rw [hz2]; omega
  case b3 => unfold maxLen; omega
  intro w1 hown hgrow
  have own1 := own_made hown a2.2.1
  have bel1 : Below w.heap.size w w1 := (Below.refl _ _).grown hgrow (Nat.le_refl _) (by simp)
  have hsz : w.heap.size < w1.heap.size := own1.lt.2
  clear hown hgrow
  go_wp2
  go_loopg [21] xs.length (fun m i wr => ∃ j : Nat, i = .int .i64 j ∧ j + m = xs.length ∧ ∃ os, MulOut xs ys os j ∧ Own .i64 3 w.heap.size wr w.heap.size (xs.length + ys.length) os ∧ Below w.heap.size w wr)
  case atStart => exact ⟨0, rfl, by omega, _, MulOut.start xs ys, own1, bel1⟩
  case round =>
    obtain ⟨j, rfl, hj, os, hmo, hown, hbel⟩ := hrel
    have hMO := Lib.hid hmo
    clear hmo own1
    cases gk with
    | zero =>
      obtain rfl : j = xs.length := by omega
      go_wp2_with fail
      refine (result_rd_long hown.rd (HOK.out os hMO.out)).mono ?_
      rintro e w' ⟨rfl, rfl⟩
      go_wp2
      go_ret2
      exact ⟨rfl, hbel⟩
    | succ m =>
      have hlt : j < xs.length := by omega
      obtain ⟨ba, oa, rfl, hba, hca⟩ : ∃ b off, aa = some ⟨b, off, none⟩ ∧ b < w.heap.size ∧ ∀ i, i < xs.length → w.cell? ⟨b, off + i, none⟩ = some (.int .i64 (xs.getD i 0)) := by
        rcases a3 with a3 | a3
        · omega
        · exact a3
      have hcx := (hbel.cell (p := ⟨ba, oa + j, none⟩) hba).trans (hca j hlt)
      have bx := limbs_getD lx j
      obtain ⟨x, hx⟩ : ∃ x, xs.getD j 0 = x := ⟨_, rfl⟩
      rw [hx] at hcx bx
      have HX := Lib.hid hx
      clear hca a3 hx
      obtain ⟨wo, rfl⟩ : ∃ wo : World, wo = wr := ⟨_, rfl⟩
      go_wp2
      go_loopg [28, 9] ys.length (fun m i c wr => ∃ k : Nat, i = .int .i64 k ∧ k + m = ys.length ∧ ∃ (q : Int) (qs : List Int), c = .int .i64 q ∧ MulIn xs ys os qs j k q ∧ Own .i64 3 w.heap.size wr w.heap.size (xs.length + ys.length) qs ∧ Below w.heap.size w wr)
      case atStart => exact ⟨0, rfl, by omega, 0, os, rfl, MulIn.start hMO.out, hown, hbel⟩
      case round =>
        obtain ⟨k, rfl, hk, q, qs, rfl, hmi, hown2, hbel2⟩ := hrel
        have hq0 := hmi.c0
        have hq1 := hmi.c1
        have hMI := Lib.hid hmi
        clear hmi hown hbel hcx
        cases gk with
        | zero =>
          obtain rfl : k = ys.length := by omega
          have hfr := hown2.frozen (j + ys.length)
          have hcell := hown2.cell (j + ys.length) (by omega)
          go_wp2
          go_roundg m
          case measure => omega
          case rel => exact ⟨j + 1, by go_num, by omega, _, hMI.out.done hMO.out hlt, hown2.store _ _, hbel2.setCell (Nat.le_refl _) _⟩
        | succ m2 =>
          have hlt2 : k < ys.length := by omega
          obtain ⟨bb, ob, rfl, hbb, hcb⟩ : ∃ b off, ab = some ⟨b, off, none⟩ ∧ b < w.heap.size ∧ ∀ i, i < ys.length → w.cell? ⟨b, off + i, none⟩ = some (.int .i64 (ys.getD i 0)) := by
            rcases b3 with b3 | b3
            · omega
            · exact b3
          have hcy := (hbel2.cell (p := ⟨bb, ob + k, none⟩) hbb).trans (hcb k hlt2)
          have bY := limbs_getD ly k
          have hco := hown2.cell (j + k) (by omega)
          have bo := limbs_getD hMI.out.limbs (j + k)
          have hfr := hown2.frozen (j + k)
          have hst := hMI.out.step lx ly hlt hlt2
          rw [HX.out] at hst
          obtain ⟨y, hy⟩ : ∃ y, ys.getD k 0 = y := ⟨_, rfl⟩
          obtain ⟨o, ho⟩ : ∃ o, qs.getD (j + k) 0 = o := ⟨_, rfl⟩
          rw [hy] at hcy bY hst
          rw [ho] at hco bo hst
          have bp := limb_prod bx bY
          have hST := Lib.hid hst
          clear hcb b3 hy ho hst
          go_wp2
          go_roundg m2
          case measure => omega
          case rel => exact ⟨k + 1, by go_num, by omega, _, _, rfl, hST.out, hown2.store _ _, hbel2.setCell (Nat.le_refl _) _⟩
theorem Dig.long {xs : List Int} {n : Nat} (h : Dig xs n) (hn : pw 256 ≤ (n : Int)) : 256 < xs.length := by
  rcases Nat.lt_or_ge 256 xs.length with h' | h'
  · exact h'
  · have := (h.len_le 256).1 h'
    omega
theorem mul_long {a b : Value} {m n : Nat} {w : World} (ha : NatAt w a m) (hb : NatAt w b n) (hm : (m : Int) < pw 256) (hn : (n : Int) < pw 256) (hmn : pw 256 ≤ ((m * n : Nat) : Int)) :
    Calls Tryz.prog 13 #[a, b] w (RetLong w) := by
  obtain ⟨xs, r1, d1⟩ := ha
  obtain ⟨ys, r2, d2⟩ := hb
  have s1 := Dig.short d1 hm
  have s2 := Dig.short d2 hn
  exact mul_long_lists a b xs ys w r1 r2 d1.limbs d2.limbs (by omega) (by omega) fun os h => Dig.long (h.done d1.val d2.val) hmn
end Go.Proofs.YtabgkfjfmjdfiaaGreatDoor.Zn
