import Derived.Test.YtabgkfjfmjdfiaaGreatDoorZSmall
import Derived.Deep.QuietTactic
import Derived.BigQuiet

/- natural.Add: it returns the sum. routescoperef02.Same: whether two lists are equal. -/
set_option linter.unusedSectionVars false
set_option linter.unusedSimpArgs false
set_option linter.unusedVariables false
namespace Go.Proofs.YtabgkfjfmjdfiaaGreatDoor.Zn
open Go.RowKit Lmb
variable [Zone]
attribute [local go_sem] and_limb
set_option maxRecDepth 20000 in
set_option maxHeartbeats 1000000 in
theorem add_lists (a b : Value) (xs ys : List Int) (w : World) (m n : Nat) (ha : Rd .i64 w a xs) (hb : Rd .i64 w b ys) (lx : Limbs xs) (ly : Limbs ys) (sx : xs.length ≤ 65536) (sy : ys.length ≤ 65536)
    (dx : val xs = m) (dy : val ys = n) (hok : ∀ zs, Dig zs (m + n) → zs.length ≤ 256) :
    Calls Tryz.prog 8 #[a, b] w (RetNat (m + n) w) := by
  have HOK := Lib.hid hok
  have DX := Lib.hid dx
  have DY := Lib.hid dy
  clear hok dx dy
  have ra := ha
  have rb := hb
  obtain ⟨aa, ca, rfl, a1, a2, a3⟩ := ha
  obtain ⟨ab, cb, rfl, b1, b2, b3⟩ := hb
  obtain ⟨i0, hi, hz0, hz1, hz2⟩ := info_parts Tryz.infoInt
  unfold maxLen at a2 b2
  clear a3 b3
  obtain ⟨k, hk⟩ : ∃ k, k = max xs.length ys.length := ⟨_, rfl⟩
  have hkx : xs.length ≤ k := by omega
  have hky : ys.length ≤ k := by omega
  have hk2 : k ≤ 65536 := by omega
  have hc : (xs.length < ys.length ∧ k = ys.length) ∨ (ys.length ≤ xs.length ∧ k = xs.length) := by omega
  have HKX := Lib.hid hkx
  have HKY := Lib.hid hky
  clear hk hkx hky
  generalize xs.length = n1 at ra a1 sx hc ⊢
  generalize ys.length = n2 at rb b1 sy hc ⊢
  rcases hc with ⟨hle, rfl⟩ | ⟨hle, rfl⟩
  all_goals
    go_enter Tryz.func8, Tryz.ntmps8
    go_wp2_with (at_make; go_must (refine wpList_make_full _ rfl (.tmp 17) (.tmp 17) 24 rfl w.heap.size 3 i0 (.int .i64 0) 1 Tryz.underlying24 hi hz0 hz1 .i64 .i64 _ _ (k + 1) rfl rfl (by omega) (by omega) ?b2 ?b3 (Nat.le_refl _) ?_))
    case b2 => rw [hz2]; omega
    case b3 => unfold maxLen; omega
    intro w1 hown hgrow
    have own1 := own_made hown a2.2.1
    have bel1 : Below w.heap.size w w1 := (Below.refl _ _).grown hgrow (Nat.le_refl _) (by simp)
    have hsz : w.heap.size < w1.heap.size := own1.lt.2
    clear hown hgrow
    go_wp2
    go_loopg [20, 8] k (fun m i c wr => ∃ j : Nat, i = .int .i64 j ∧ j + m = k ∧ ∃ (q : Int) (os : List Int), c = .int .i64 q ∧ AddInv xs ys os k j q ∧ Own .i64 3 w.heap.size wr w.heap.size (k + 1) os ∧ Below w.heap.size w wr)
    case atStart => exact ⟨0, rfl, by omega, 0, _, rfl, AddInv.start xs ys k, own1, bel1⟩
    case round =>
      obtain ⟨j, rfl, hj, q, os, rfl, hai, hown, hbel⟩ := hrel
      have hq0 := hai.c0
      have hq1 := hai.c1
      have hAI := Lib.hid hai
      clear hai own1
      cases gk with
      | zero =>
        obtain rfl : j = k := by omega
        have hfr := hown.frozen j
        have hcell := hown.cell j (by omega)
        have hs := (hown.store j q).rd
        have hd := hAI.out.done DX.out DY.out HKX.out HKY.out
        have hl := HOK.out _ hd
        have HD := Lib.hid hd
        have HL := Lib.hid hl
        have HS := Lib.hid hs
        clear hd hl hs
        go_wp2_with fail
        refine (result_rd HS.out HL.out).mono ?_
        rintro e w' ⟨v, rfl, hv, rfl⟩
        go_wp2
        go_ret2
        exact ⟨v, rfl, ⟨_, hv, HD.out⟩, hbel.setCell (Nat.le_refl _) _⟩
      | succ m =>
        have bx := limbs_getD lx j
        have bY := limbs_getD ly j
        have hst := hAI.out.step lx ly (show j < k by omega)
        have hcell := hown.cell j (by omega)
        have hfr := hown.frozen j
        have RA := Lib.hid (at_calls _ j xs _ (ra.below hbel))
        have RB := Lib.hid (at_calls _ j ys _ (rb.below hbel))
        obtain ⟨x, hx⟩ : ∃ x, xs.getD j 0 = x := ⟨_, rfl⟩
        obtain ⟨y, hy⟩ : ∃ y, ys.getD j 0 = y := ⟨_, rfl⟩
        rw [hx] at RA bx hst
        rw [hy] at RB bY hst
        have hST := Lib.hid hst
        clear hst hx hy
        go_wp2_with fail
        refine RA.out.mono ?_
        rintro e w' ⟨rfl, rfl⟩
        go_wp2_with fail
        refine RB.out.mono ?_
        rintro e w' ⟨rfl, rfl⟩
        go_wp2
        go_roundg m
        case measure => omega
        case rel => exact ⟨j + 1, by go_num, by omega, _, _, rfl, hST.out, hown.store _ _, hbel.setCell (Nat.le_refl _) _⟩
def RetBool (b : Bool) (w : World) (e : Ending) (w' : World) : Prop := e = .returned (.bool b) ∧ ∃ n, w' = w.drewN n
def sameB (xs ys : List Int) : Bool := decide (xs = ys)
theorem sameB_dig {xs ys : List Int} {m n : Nat} (h : Dig xs m) (k : Dig ys n) : sameB xs ys = decide (m = n) := by
  unfold sameB
  rw [decide_eq_decide]
  exact h.inj k
theorem take_snoc_eq {xs ys : List Int} {k : Nat} (h : xs.take k = ys.take k) (hx : k < xs.length) (hy : k < ys.length) (e : xs.getD k 0 = ys.getD k 0) : xs.take (k + 1) = ys.take (k + 1) := by
  rw [List.take_succ_eq_append_getElem hx, List.take_succ_eq_append_getElem hy, h]
  simp only [List.getD, List.getElem?_eq_getElem hx, List.getElem?_eq_getElem hy, Option.getD_some] at e
  rw [e]
set_option maxRecDepth 20000 in
set_option maxHeartbeats 1000000 in
theorem same_calls (a b : Value) (xs ys : List Int) (w : World) (ha : Rd .i64 w a xs) (hb : Rd .i64 w b ys) :
    Calls Tryz.prog 17 #[a, b] w (RetBool (sameB xs ys) w) := by
  obtain ⟨aa, ca, rfl, a1, a2, a3⟩ := ha
  obtain ⟨ab, cb, rfl, b1, b2, b3⟩ := hb
  unfold maxLen at a2 b2
  by_cases hl : xs.length = ys.length
  · have hlb : ((xs.length : Int) != (ys.length : Int)) = false := by rw [hl]; simp
    have hle1 : xs.length ≤ ys.length := by omega
    have hle2 : ys.length ≤ xs.length := by omega
    have HL := Lib.hid hl
    clear hl
    go_enter Tryz.func17, Tryz.ntmps17
    go_wp2
    go_loopg [5] xs.length (fun m i wr => ∃ j : Nat, i = .int .i64 j ∧ j + m = xs.length ∧ xs.take j = ys.take j ∧ ∃ d, wr = w.drewN d)
    case atStart => exact ⟨0, rfl, by omega, rfl, 0, rfl⟩
    case round =>
      obtain ⟨j, rfl, hj, htk, d, rfl⟩ := hrel
      have HT := Lib.hid htk
      clear htk
      cases gk with
      | zero =>
        obtain rfl : j = xs.length := by omega
        have hs : sameB xs ys = true := by
          have h1 := HT.out
          rw [List.take_of_length_le (Nat.le_refl _), List.take_of_length_le hle2] at h1
          unfold sameB; simp [h1]
        have HS := Lib.hid hs
        clear hs
        go_wp2
        go_ret
        exact ⟨by rw [HS.out]; rfl, d, rfl⟩
      | succ m =>
        have hlt : j < xs.length := by omega
        have hlt' : j < ys.length := by omega
        obtain ⟨ba, oa, rfl, hba, hca⟩ : ∃ b off, aa = some ⟨b, off, none⟩ ∧ b < w.heap.size ∧ ∀ i, i < xs.length → w.cell? ⟨b, off + i, none⟩ = some (.int .i64 (xs.getD i 0)) := by
          rcases a3 with a3 | a3
          · omega
          · exact a3
        obtain ⟨bb, ob, rfl, hbb, hcb⟩ : ∃ b off, ab = some ⟨b, off, none⟩ ∧ b < w.heap.size ∧ ∀ i, i < ys.length → w.cell? ⟨b, off + i, none⟩ = some (.int .i64 (ys.getD i 0)) := by
          rcases b3 with b3 | b3
          · omega
          · exact b3
        have hcx := hca j hlt
        have hcy := hcb j hlt'
        clear hca hcb a3 b3
        by_cases he : xs.getD j 0 = ys.getD j 0
        · have hst := take_snoc_eq HT.out hlt hlt' he
          obtain ⟨x, hx⟩ : ∃ x, xs.getD j 0 = x := ⟨_, rfl⟩
          rw [← he, hx] at hcy
          rw [hx] at hcx
          have hne : (x != x) = false := by simp
          have HST := Lib.hid hst
          clear hst he hx
          go_wp2
          go_quiet (fail)
          go_wp2
          go_roundg m
          case measure => omega
          case rel => exact ⟨j + 1, by go_num, by omega, HST.out, _, rfl⟩
        · have hs : sameB xs ys = false := by unfold sameB; simp; rintro rfl; exact he rfl
          have HS := Lib.hid hs
          obtain ⟨x, hx⟩ : ∃ x, xs.getD j 0 = x := ⟨_, rfl⟩
          obtain ⟨y, hy⟩ : ∃ y, ys.getD j 0 = y := ⟨_, rfl⟩
          rw [hy] at hcy he
          rw [hx] at hcx he
          have hne : (x != y) = true := by simpa using he
          clear hs he hx hy
          go_wp2
          go_quiet (fail)
          go_wp2
          go_ret
          exact ⟨by rw [HS.out]; rfl, _, World.drewN_drewN _ _ _⟩
  · have hlb : ((xs.length : Int) != (ys.length : Int)) = true := by rw [bne_iff_ne]; omega
    have hs : sameB xs ys = false := by unfold sameB; simp; rintro rfl; exact hl rfl
    have HS := Lib.hid hs
    clear hs hl
    go_enter Tryz.func17, Tryz.ntmps17
    go_wp2
    go_ret
    exact ⟨by rw [HS.out]; rfl, 0, rfl⟩
end Go.Proofs.YtabgkfjfmjdfiaaGreatDoor.Zn
