/- strings.Builder: String: a variable and a row of bytes of the caller's own. -/
import Derived.Test.YtepkbbmjbbnhnaaGreatDoorBldE
import Derived.Lib.UnsafeStr
set_option linter.unusedSimpArgs false
set_option linter.unusedVariables false
namespace Go.Proofs.YtepkbbmjbbnhnaaGreatDoor
open Go.RowKit Eng
set_option maxHeartbeats 2000000 in
set_option maxRecDepth 100000 in
theorem string_run (b g cap : Nat) (l : List UInt8) (h0 : l ≠ []) (p : Value) (cur : Array Value) (w : World) (hbk : w.heap[b]? = some (.cells #[p, .slice (some ⟨g, 0, none⟩) l.length cap] 89 (0, 0)))
    (hg : w.heap[g]? = some (.cells cur 5 (0, 0))) (hn : l.length ≤ cap) (hc : cur.size = cap) (hcm : cap ≤ maxLen) (hcell : ∀ j x, l[j]? = some x → w.cell? ((⟨g, 0, none⟩ : Addr).add j) = some (.int .u8 x.toNat)) :
    Calls Tryz.prog 56 #[.pointer (some ⟨b, 0, none⟩)] w fun e w' => e = .returned (.string ⟨l.toArray⟩) ∧ w' = w.drew.freeze ⟨g, 0, none⟩ l.length := by
  have hl0 : l.length ≠ 0 := by simpa using h0
  have c1 : w.drew.cell? ⟨b, 1, none⟩ = some (.slice (some ⟨g, 0, none⟩) l.length cap) := by
    have : w.drew.heap[b]? = some (.cells #[p, .slice (some ⟨g, 0, none⟩) l.length cap] 89 (0, 0)) := hbk
    rw [Lib.cell_of_heap this]; rfl
  have hsd : ∀ ts ty, (Builtin.unsafeSliceData_ ts ty #[.slice (some ⟨g, 0, none⟩) l.length cap]).run Tryz.prog w.drew = .ok (.pointer (some ⟨g, 0, none⟩)) w.drew := fun ts ty => Lib.run_unsafeSliceData_row _ _ _ _ _ _ (by omega)
  have hus : ∀ it ty, (Builtin.unsafeString_ #[119, it] ty #[.pointer (some ⟨g, 0, none⟩), .int .i64 l.length]).run Tryz.prog w.drew = .ok (.string ⟨l.toArray⟩) (w.drew.freeze ⟨g, 0, none⟩ l.length) := fun it ty => by
    refine Lib.run_unsafeString_row w.drew _ it ty 5 (by kernel_rfl) (by kernel_rfl) g cur.size ?_ l h0 (by omega) (by unfold maxLen at hcm; omega) hcell
    have hg' : w.drew.heap[g]? = some (.cells cur 5 (0, 0)) := hg
    simp [World.shape?, hg']
  have mixed : Tryz.prog.follows .mixedOrders = true := by kernel_rfl
  go_enter Tryz.func56, Tryz.ntmps56
  go_wp2
  go_region_o
  all_goals (go_wp2; go_ret; exact ⟨rfl, rfl⟩)
theorem freeze_old (w : World) (g n k : Nat) (h : k ≠ g) : (w.freeze ⟨g, 0, none⟩ n).heap[k]? = w.heap[k]? := by
  unfold World.freeze
  split
  · rfl
  · simp only [Array.getElem?_modify]
    rw [if_neg (fun e => h e.symm)]
theorem freeze_size (w : World) (a : Addr) (n : Nat) : (w.freeze a n).heap.size = w.heap.size := by
  unfold World.freeze
  split
  · rfl
  · simp
theorem freeze_same (w : World) (a : Addr) (n : Nat) : (w.freeze a n).os = w.os ∧ (w.freeze a n).tape = w.tape ∧ (w.freeze a n).output = w.output := by
  unfold World.freeze
  split <;> exact ⟨rfl, rfl, rfl⟩
theorem stringC (F : Frm) (b : Nat) (p : SV) (a : Option Addr) (n cap : Nat) (l : List UInt8) (hl : l.length = n) (h0 : l ≠ []) :
    ContractL F Tryz.prog 56 [.op 0 b 0] [selfBox b p a n cap, byRow a n cap (bytesRd l)] (fun r os => r = .v (.string ⟨l.toArray⟩) ∧ os = [.gone, .gone]) := by
  have hf : Tryz.prog.funcs[56]? = some Tryz.f56 := Tryz.func56
  refine ⟨fun vs w => ?_, fun R w ob hinv hobM hobw ho0 hd0 hargs hR => ?_⟩
  · have hn : ¬ Tryz.f56.name = "runtime.NumGoroutine" := by
      have : (Tryz.f56.name == "runtime.NumGoroutine") = false := by kernel_rfl
      simpa using this
    obtain ⟨c, hb⟩ : ∃ c, Tryz.f56.body = some c := ⟨_, rfl⟩
    simp [callFunc, hf, hn, hb]
  · have hbox := ho0 0 _ rfl
    have hrow := ho0 1 _ rfl
    obtain ⟨hB, hnR, hg, hcs⟩ := hbox
    subst hl
    have hl0 : l.length ≠ 0 := by simpa using h0
    rcases hrow.1.2 with ⟨_, h9⟩ | ⟨g, cap', cur, hv, hbg, hgg, hnc, hcm, hsz, htk⟩
    · exact absurd h9 hl0
    simp only [Value.slice.injEq] at hv
    obtain ⟨rfl, _, rfl⟩ := hv
    have hcell : ∀ (j : Nat) x, l[j]? = some x → w.cell? ((⟨g, 0, none⟩ : Addr).add j) = some (.int .u8 x.toNat) := fun j x hx => by
      have hj := (List.getElem?_eq_some_iff.1 hx).1
      obtain ⟨g', hg', hc⟩ := row_cell hrow (i := j) (j := 0) hj (by decide)
      simp only [Option.some.injEq, Addr.mk.injEq, and_true, true_and] at hg'
      subst hg'
      rw [Addr.add_lit]
      rw [show 0 + j = j * 1 + 0 by omega, hc]
      simp [bytesRd, SV.den, List.getD, hx]
    have hgR : ¬ R g := hrow.2.1 _ rfl
    refine (string_run b g cap l h0 p.den cur w (by rw [hg]; simp [SV.den]) hgg hnc (by omega) hcm hcell).mono ?_
    rintro e w' ⟨rfl, rfl⟩
    obtain ⟨f1, f2, f3⟩ := freeze_same w.drew ⟨g, 0, none⟩ l.length
    have hold : ∀ k, k ≠ g → (w.drew.freeze ⟨g, 0, none⟩ l.length).heap[k]? = w.heap[k]? := fun k hk => freeze_old w.drew g l.length k hk
    have hs : (w.drew.freeze ⟨g, 0, none⟩ l.length).heap.size = w.heap.size := freeze_size w.drew _ _
    refine ⟨.v (.string ⟨l.toArray⟩), [.gone, .gone], R, rfl, ⟨rfl, rfl⟩, by simp, fun _ h => h, fun c hc => ⟨by rw [hs]; exact (hR c hc).1, .inl hc⟩, trivial, ?_, ?_, ?_, ⟨f1, f2, f3, Nat.le_of_eq hs.symm, fun k hk hm => hold k (fun e => hm (.inr ⟨1, _, rfl, by rw [e]; rfl⟩))⟩, ?_⟩
    · rintro c ⟨i, o, ho, hb⟩
      match i, ho with
      | 0, ho => cases ho; cases hb
      | 1, ho => cases ho; cases hb
    · intro i o ho
      match i, ho with
      | 0, ho => cases ho; trivial
      | 1, ho => cases ho; trivial
    · intro i j o o' hij ho ho' c hc
      match i, ho with
      | 0, ho => cases ho; cases hc
      | 1, ho => cases ho; cases hc
    · have hog : ob ≤ g := hbg
      exact F.stab w _ ob hinv hobM fun k hk => hold k (by omega)
set_option maxHeartbeats 2000000 in
set_option maxRecDepth 100000 in
theorem string_nil (b : Nat) (p : Value) (w : World) (hbk : w.heap[b]? = some (.cells #[p, .slice none 0 0] 89 (0, 0))) :
    Calls Tryz.prog 56 #[.pointer (some ⟨b, 0, none⟩)] w fun e w' => e = .returned (.string ⟨#[]⟩) ∧ w' = w.drew := by
  have c1 : w.drew.cell? ⟨b, 1, none⟩ = some (.slice none 0 0) := by
    have : w.drew.heap[b]? = some (.cells #[p, .slice none 0 0] 89 (0, 0)) := hbk
    rw [Lib.cell_of_heap this]; rfl
  have hsd : ∀ ts ty, (Builtin.unsafeSliceData_ ts ty #[.slice none 0 0]).run Tryz.prog w.drew = .ok (.pointer none) w.drew := fun ts ty => rfl
  have hus : ∀ it ty, (Builtin.unsafeString_ #[119, it] ty #[.pointer none, .int .i64 0]).run Tryz.prog w.drew = .ok (.string ⟨#[]⟩) w.drew := fun it ty => by
    have hu : Tryz.prog.underlying 119 = some (.pointer 5) := by kernel_rfl
    first
    | rfl
    | simp [Builtin.unsafeString_, run_underlying hu]
  have mixed : Tryz.prog.follows .mixedOrders = true := by kernel_rfl
  go_enter Tryz.func56, Tryz.ntmps56
  go_wp2
  go_region_o
  all_goals (go_wp2; go_ret; exact ⟨rfl, rfl⟩)
theorem stringNilC (F : Frm) (b : Nat) (p : SV) (rd : Nat → Nat → SV) :
    ContractL F Tryz.prog 56 [.op 0 b 0] [selfBox b p none 0 0, byRow none 0 0 rd] (fun r os => r = .v (.string ⟨#[]⟩) ∧ os = [.gone, .gone]) := by
  have hf : Tryz.prog.funcs[56]? = some Tryz.f56 := Tryz.func56
  refine ⟨fun vs w => ?_, fun R w ob hinv hobM hobw ho0 hd0 hargs hR => ?_⟩
  · have hn : ¬ Tryz.f56.name = "runtime.NumGoroutine" := by
      have : (Tryz.f56.name == "runtime.NumGoroutine") = false := by kernel_rfl
      simpa using this
    obtain ⟨c, hb⟩ : ∃ c, Tryz.f56.body = some c := ⟨_, rfl⟩
    simp [callFunc, hf, hn, hb]
  · obtain ⟨hB, hnR, hg, hcs⟩ := ho0 0 _ rfl
    refine (string_nil b p.den w (by rw [hg]; simp [SV.den])).mono ?_
    rintro e w' ⟨rfl, rfl⟩
    refine ⟨.v (.string ⟨#[]⟩), [.gone, .gone], R, rfl, ⟨rfl, rfl⟩, by simp, fun _ h => h, fun c hc => ⟨(hR c hc).1, .inl hc⟩, trivial, ?_, ?_, ?_, ⟨rfl, rfl, rfl, Nat.le_refl _, fun k hk hm => rfl⟩, ?_⟩
    · rintro c ⟨i, o, ho, hb⟩
      match i, ho with
      | 0, ho => cases ho; cases hb
      | 1, ho => cases ho; cases hb
    · intro i o ho
      match i, ho with
      | 0, ho => cases ho; trivial
      | 1, ho => cases ho; trivial
    · intro i j o o' hij ho ho' c hc
      match i, ho with
      | 0, ho => cases ho; cases hc
      | 1, ho => cases ho; cases hc
    · exact F.stab w _ ob hinv hobM fun k hk => rfl
end Go.Proofs.YtepkbbmjbbnhnaaGreatDoor
