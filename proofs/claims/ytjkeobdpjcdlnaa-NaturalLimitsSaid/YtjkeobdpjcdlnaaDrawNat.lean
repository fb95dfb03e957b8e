/- routescopedraw.Codes.Natural: a valid number of at most n limbs. -/
import Derived.Test.YtjkeobdpjcdlnaaDraw
import Derived.Test.YtjkeobdpjcdlnaaTrimRef
import Derived.Test.YtjkeobdpjcdlnaaMul
import Derived.Deep.DeepMust
namespace Go.Proofs.Ytjkeobdpjcdlnaa
open Go.RowKit Lmb

/-- a row of ints of the call's own reads as a list -/
theorem rd_of_owns {w : World} {B : Nat} {e : TypeId} {v : Value} {xs : List Int} (h : w.ownsRow B e 1 v xs.length (xs.map (Value.int .i64))) : Rd .i64 w v xs := by
  have h' := h
  rcases h.2 with ⟨rfl, h0⟩ | ⟨g, cap, cur, rfl, hb, hg, hn, hc, _⟩
  · obtain rfl := List.length_eq_zero_iff.1 h0
    exact Rd.nil _ _
  · refine ⟨some ⟨g, 0, none⟩, cap, rfl, hn, hc, .inr ⟨g, 0, rfl, (h'.lt g rfl).2, fun i hi => ?_⟩⟩
    have := World.ownsRow.cells h' (g := g) rfl i (.int .i64 (xs.getD i 0)) (by simp [List.getD, hi])
    rwa [Addr.add_lit] at this

/-- the slice does not lie in block cb -/
def Away (cb : Nat) (v : Value) : Prop := ∀ a n c, v = .slice (some a) n c → cb < a.block

theorem away_own {w : World} {B cb : Nat} {e : TypeId} {size : Nat} {v : Value} {n : Nat} {xs : List Value} (h : w.ownsRow B e size v n xs) (hcb : cb < B) : Away cb v := by
  rintro a n c rfl
  have := (h.lt a.block rfl).1
  omega

theorem away_reslice {cb : Nat} {ad : Option Addr} {n c : Nat} (h : Away cb (.slice ad n c)) (m d : Nat) : Away cb (.slice ad m d) := by
  rintro a n' c' e
  simp only [Value.slice.injEq] at e
  exact h a n c (by rw [e.1])

/-- a number drawn: at most n limbs; block cb alone has turned -/
def RetDrawn (cb : Nat) (n : Nat) (w : World) (e : Ending) (w' : World) : Prop :=
  ∃ v m, e = .returned v ∧ NatAt w' v m ∧ (m : Int) < pw n ∧ Away cb v ∧ Codes cb w' ∧ w.grownBy w' (some cb)

theorem five {w : World} {blk : Nat} {e : TypeId} {a b c d f : Int} (h : w.heap[blk]? = some (.cells #[.int .i64 a, .int .i64 b, .int .i64 c, .int .i64 d, .int .i64 f] e (0, 0))) {M : Int}
    (ha : 0 ≤ a ∧ a ≤ M) (hb : 0 ≤ b ∧ b ≤ M) (hc : 0 ≤ c ∧ c ≤ M) (hd : 0 ≤ d ∧ d ≤ M) (hf : 0 ≤ f ∧ f ≤ M) (i : Nat) (hi : i < 5) :
    ∃ y : Int, 0 ≤ y ∧ y ≤ M ∧ w.cell? ⟨blk, i, none⟩ = some (.int .i64 y) := by
  have hcell := cell_of_row w blk i _ _ _ h
  rcases (show i = 0 ∨ i = 1 ∨ i = 2 ∨ i = 3 ∨ i = 4 by omega) with rfl | rfl | rfl | rfl | rfl
  · exact ⟨a, ha.1, ha.2, hcell⟩
  · exact ⟨b, hb.1, hb.2, hcell⟩
  · exact ⟨c, hc.1, hc.2, hcell⟩
  · exact ⟨d, hd.1, hd.2, hcell⟩
  · exact ⟨f, hf.1, hf.2, hcell⟩

set_option maxHeartbeats 1000000 in
theorem natural_calls (cb : Nat) (n : Nat) (w : World) (h : Codes cb w) (hn : n ≤ 1000) :
    Calls Try.prog 13 #[.pointer (some ⟨cb, 0, none⟩), .int .i64 (n : Int)] w (RetDrawn cb n w) := by
  obtain ⟨i0, hi, hz0, hz1, hz2⟩ := info_parts Try.infoInt
  have hcb := h.lt
  go_enter Try.func13, Try.ntmps13
  go_wp2_with fail
  refine (next_calls cb ((n : Int) + 1) w h (by omega) (by omega)).mono ?_
  rintro e w1 ⟨r, rfl, hr0, hr1, hc1, hg1⟩
  have hr2 : r ≤ n := by omega
  clear hr1
  go_wp2
  go_loopg [5, 6] r.toNat (fun m v k wr => ∃ (q : Int) (xs : List Int), k = .int .i64 q ∧ 0 ≤ q ∧ q = m ∧ xs.length + m ≤ n ∧ Limbs xs ∧ wr.ownsRow w.heap.size 3 1 v xs.length (xs.map (Value.int .i64)) ∧ Codes cb wr ∧ w.grownBy wr (some cb))
  case atStart => exact ⟨r, [], rfl, hr0, by omega, by simp; omega, limbs_nil, World.ownsRow_nil _ _ _ _, hc1, hg1⟩
  case round =>
    obtain ⟨q, xs, rfl, hq0, hqm, hlen, hlim, hown, hcr, hgr⟩ := hrel
    have HL := Lib.hid hlim
    clear hlim
    cases gk with
    | zero =>
      obtain rfl : q = 0 := by omega
      clear hqm
      have haw := away_own hown hcb
      have hrd := rd_of_owns hown
      obtain ⟨ad, cap, rfl, g1, g2, g3⟩ := hrd
      have hrd : Rd .i64 wr (.slice ad xs.length cap) xs := ⟨ad, cap, rfl, g1, g2, g3⟩
      clear g1 g2 g3
      go_wp2_with fail
      refine (ref_trim_calls ad cap xs wr hrd).mono ?_
      rintro e w2 ⟨rfl, rfl⟩
      go_wp2
      go_ret
      have hd := dig_trim HL.out
      refine ⟨_, _, rfl, ⟨_, hrd.trim, hd⟩, ?_, away_reslice haw _ _, hcr, hgr⟩
      exact (hd.len_le n).1 (Nat.le_trans (trim_len xs) (by omega))
    | succ m =>
      have hqp : 0 < q := by omega
      have hqb : q ≤ 1000 := by omega
      have HQ := Lib.hid hqm
      clear hqm
      go_wp2_with fail
      refine (next_calls cb 256 _ hcr (by omega) (by omega)).mono ?_
      rintro e w2 ⟨r1, rfl, r10, r11, hc2, hg2⟩
      have r12 : r1 < 256 := by omega
      clear r11
      go_wp2_with fail
      refine (next_calls cb 65536 _ hc2 (by omega) (by omega)).mono ?_
      rintro e w3 ⟨r2, rfl, r20, r21, hc3, hg3⟩
      have r22 : r2 < 65536 := by omega
      clear r21
      go_wp2_with fail
      refine (next_calls cb 16000 _ hc3 (by omega) (by omega)).mono ?_
      rintro e w4 ⟨r3, rfl, r30, r31, hc4, hg4⟩
      have r32 : r3 < 16000 := by omega
      clear r31
      have hp0 : 0 ≤ r2 * (1 + r3) := Int.mul_nonneg r20 (by omega)
      have hp1 : r2 * (1 + r3) ≤ 1048576000 := by
        have : r2 * (1 + r3) ≤ 65536 * (1 + r3) := Int.mul_le_mul_of_nonneg_right (by omega) (by omega)
        omega
      go_wp2_with fail
      have bel5 : Below w4.heap.size w4 (w4.alloc (.cells #[.int .i64 0, .int .i64 1, .int .i64 1073741823, .int .i64 r1, .int .i64 (r2 * (1 + r3))] 3)) := (Below.refl _ _).alloc (Nat.le_refl _) _
      refine (next_calls cb 5 _ (hc4.below bel5) (by omega) (by omega)).mono ?_
      rintro e w5 ⟨ix, rfl, ix0, ix1, hc6, hg6⟩
      obtain ⟨i, rfl⟩ := Int.eq_ofNat_of_zero_le ix0
      have hi5 : i < 5 := by omega
      clear ix1 ix0
      have hlt4 := hc4.lt
      have hblk : w5.heap[w4.heap.size]? = some (.cells #[.int .i64 0, .int .i64 1, .int .i64 1073741823, .int .i64 r1, .int .i64 (r2 * (1 + r3))] 3 (0, 0)) :=
        (hg6.block w4.heap.size (by simp) (by intro e; injection e; omega)).trans (heap_alloc_new w4 _)
      obtain ⟨y, hy0, hy1, hcy⟩ := five hblk (M := 1073741823) (by omega) (by omega) (by omega) (by omega) (by omega) i hi5
      have hown5 := own_kept ((own_kept (own_kept (own_kept hown hg2 hcb) hg3 hcb) hg4 hcb).alloc _) hg6 hcb
      have hg5 := grown_trans (grown_alloc (grown_trans (grown_trans (grown_trans hgr hg2) hg3) hg4) _) hg6
      have hcap := hg5.size
      clear hblk hown hg2 hg3 hg4 hg6 hgr hc1 hc2 hc3 hc4 hcr bel5 hg1 hlt4
      have hlb : xs.length ≤ 1000 := by omega
      go_wp2_with (at_builtin; go_must (refine wpList_append_own _ rfl (.tmp 15) (.tmp 30) 25 rfl w.heap.size 3 i0 (.int .i64 0) 1 8 Try.underlying25 hi hz0 hz1 hz2 rfl (by decide) _ _ _ rfl (hown5.alloc _) ⟨w5.heap.size, 0, none⟩ 1 1 [.int .i64 (y % 1073741824)] rfl rfl ?c1 ?c2 ?c3 ?c4 ?c5 ?_))
      case c1 =>
        intro j u hj
        match j, hj with
        | 0, hj => simp at hj; subst hj; simp [Addr.add]
      case c2 => intro u hu; simp at hu; subst hu; rfl
      case c3 => unfold maxLen; omega
      case c4 => omega
      case c5 => simp; omega
      intro v' w6 hown' hgrow _
      have hgf := grown_own (grown_alloc hg5 _) hgrow (fun k hk => (hown5.lt k hk).1)
      have hcf := (hc6.below (((Below.refl _ _).alloc (Nat.le_refl _) _))).grown hgrow (fun k hk => by have := (hown5.lt k hk).1; omega)
      have hof : w6.ownsRow w.heap.size 3 1 v' (xs ++ [y % 1073741824]).length ((xs ++ [y % 1073741824]).map (Value.int .i64)) := by simpa using hown'
      have hlf : Limbs (xs ++ [y % 1073741824]) := limbs_append.2 ⟨HL.out, limbs_cons.2 ⟨by omega, limbs_nil⟩⟩
      have HF := Lib.hid (And.intro hof (And.intro hlf (And.intro hcf hgf)))
      clear hof hlf hcf hgf hown' hgrow hown5 hg5
      go_wp2
      go_roundg m
      case measure => omega
      case rel => exact ⟨q - 1, xs ++ [y % 1073741824], rfl, by omega, by have := HQ.out; omega, by simp; omega, HF.out.2.1, HF.out.1, HF.out.2.2.1, HF.out.2.2.2⟩
end Go.Proofs.Ytjkeobdpjcdlnaa
