/- Choices whose row lies in a known set of blocks: the frame, a rule that keeps them after a call. Printed by gen_cs.py. -/
import Derived.Test.YtmbjonckigcgdaaDoorCsA
import Derived.Test.YtmbjonckigcgdaaDoorRolR
set_option linter.unusedSimpArgs false
set_option linter.unusedVariables false
namespace Go.Proofs.YtmbjonckigcgdaaDoor.Cs
open Go.RowKit Eng
def Frm.codesS (S : Nat → Prop) (cb : Nat) : Frm := ⟨fun b => b = cb, fun b => b = cb, Codes S cb, fun _ h => h, fun w b h e => by subst e; exact h.lt, fun w w' B h hB hw => h.kept fun k hk => hw k (Nat.lt_of_le_of_lt hk (hB cb rfl))⟩
theorem nextC (S : Nat → Prop) (cb : Nat) (n : Int) (h1 : -9223372036854775808 ≤ n) (h2 : n ≤ 9223372036854775807) : Contract (Frm.codesS S cb) Tryd.prog 25 [ptr cb, .i .i64 n] (fun r => ∃ x : Int, r = .i .i64 x ∧ 0 ≤ x ∧ (x < n ∨ x = 0)) := by
  refine ⟨enters_of Tryd.func25 rfl (by kernel_rfl), fun R w hinv _ hR => ?_⟩
  refine (next_calls S cb n w hinv h1 h2).mono ?_
  rintro e w' ⟨r, rfl, hr0, hr1, hc, hg⟩
  exact ⟨.i .i64 r, rfl, ⟨r, rfl, hr0, hr1⟩, trivial, ⟨hg.os, hg.tape, hg.output, hg.size, fun b hb hm => hg.block b hb (fun e => hm (show b = cb by simpa using e))⟩, hc⟩
def CoS (S : Nat → Prop) (cb : Nat) (w : World) : Prop := Codes S cb w ∧ ∀ b, S b → b ≠ cb ∧ ∃ cs t m, w.heap[b]? = some (.cells cs t m)
theorem Codes.at {S : Nat → Prop} {cb : Nat} {w w' : World} (h : Codes S cb w) (hc : w'.heap[cb]? = w.heap[cb]?) (hb : ∀ k, S k → w'.heap[k]? = w.heap[k]?) : Codes S cb w' := by
  obtain ⟨ad, n, cap, p, h1, h2, h3, h4⟩ := h
  refine ⟨ad, n, cap, p, hc.trans h1, h2, h3, ?_⟩
  rcases h4 with h4 | ⟨b, off, h5, h6, h8⟩
  · exact .inl h4
  · exact .inr ⟨b, off, h5, h6, fun i hi => let ⟨x, x0, x1, hx⟩ := h8 i hi; ⟨x, x0, x1, (World.cell?_of_block (w := w) (a := ⟨b, off + i, none⟩) (hb b h6.2)).trans hx⟩⟩
theorem CoS.sub {S R : Nat → Prop} {cb : Nat} {w : World} (h : ∀ w' : World, (∀ b, (R b ∨ b = cb) → w'.heap[b]? = w.heap[b]?) → CoS S cb w') : ∀ b, S b → R b := by
  intro b hS
  by_cases hR : R b
  · exact hR
  · exfalso
    obtain ⟨_, h2⟩ := h w fun _ _ => rfl
    obtain ⟨hne, cs, t, m, hb⟩ := h2 b hS
    have hlt : b < w.heap.size := (Array.getElem?_eq_some_iff.1 hb).1
    obtain ⟨_, k2⟩ := h { w with heap := w.heap.set b (.map #[] 0) hlt } (fun k hk => by
      have : b ≠ k := fun e => by subst e; exact hk.elim hR hne
      simp [Array.getElem?_set, this])
    obtain ⟨_, cs', t', m', hb'⟩ := k2 b hS
    simp [Array.getElem?_set] at hb'
theorem useMK {P : Program} {F : Frm} {S : Nat → Prop} {cb : Nat} {f : FuncId} {args : List SV} {post : SV → Prop} (h : Contract (Frm.codesS S cb) P f args post) : ContractM F P f args (.res cb (CoS S cb)) (fun r o1 => post r ∧ o1 = .res cb (CoS S cb)) := by
  refine ⟨h.enters, fun R w ob hinv hobM hobw ho0 hargs hR => ?_⟩
  obtain ⟨h1, h2, h3, h4⟩ := ho0
  have hsub := CoS.sub h4
  obtain ⟨hc0, hs0⟩ := h4 w fun _ _ => rfl
  refine (h.calls R w hc0 hargs (fun b hb => ⟨(hR b hb).1, fun hm => by have hm : b = cb := hm; subst hm; exact h2 hb⟩)).mono ?_
  rintro e w' ⟨r, rfl, hpost, hrok, hevo, hc1⟩
  have hkeep : ∀ b, S b → w'.heap[b]? = w.heap[b]? := fun b hb => hevo.block b (hR b (hsub b hb)).1 fun hm => (hs0 b hb).1 hm
  refine ⟨r, .res cb (CoS S cb), _, rfl, ⟨hpost, rfl⟩, fun b hb => .inl hb, fun b hb => hb, hrok, (fun b hb => hb), ⟨h1, ?_, ?_, ?_⟩, ⟨hevo.os, hevo.tape, hevo.output, hevo.size, fun b hb hm => hevo.block b hb fun hf => hm (.inr (by have hf : b = cb := hf; rw [hf]; rfl))⟩, ?_⟩
  · rintro (hb | hb)
    · exact h2 hb
    · omega
  · have := hevo.size; omega
  · intro w'' hw
    refine ⟨Codes.at hc1 (hw cb (.inr rfl)) fun k hk => hw k (.inl (.inl (hsub k hk))), fun b hb => ?_⟩
    obtain ⟨k1, cs, t, m, k2⟩ := hs0 b hb
    exact ⟨k1, cs, t, m, by rw [hw b (.inl (.inl (hsub b hb))), hkeep b hb]; exact k2⟩
  · exact F.stab w w' ob hinv hobM fun b hb => hevo.block b (by omega) fun hf => by have hf : b = cb := hf; omega
theorem cells_of_cell {w : World} {b o : Nat} {v : Value} (h : w.cell? ⟨b, o, none⟩ = some v) : ∃ cs t m, w.heap[b]? = some (.cells cs t m) := by
  unfold World.cell? at h
  cases hb : w.heap[b]? with
  | none => simp [hb] at h
  | some o' =>
    cases o' with
    | cells cs t m => exact ⟨cs, t, m, rfl⟩
    | _ => simp [hb] at h
def slS (a : Option Addr) (len : Nat) : Nat → Prop := fun b => 0 < len ∧ ∃ off, a = some ⟨b, off, none⟩
theorem rollC (a : Option Addr) (len cap : Nat) (rd : Nat → Nat → SV) (hb : ∀ i, i < len → ∃ x : Int, 0 ≤ x ∧ x < 256 ∧ rd i 0 = .i .u8 x) : Makes Tryd.prog 8 [.sl a len cap 1 rd] (fun cb w => CoS (slS a len) cb w) := by
  refine ⟨enters_of Tryd.func8 rfl (by kernel_rfl), fun R w hargs hR => ?_⟩
  obtain ⟨h1, h2, h3⟩ := hargs _ (List.mem_singleton.2 rfl)
  refine (roll_made a len cap w h1 h2).mono ?_
  rintro e w' ⟨rfl, n, hn, rfl⟩
  refine ⟨rfl, by simp, ⟨rfl, rfl, rfl, by simp, fun b hb _ => heap_alloc_old w _ hb⟩, fun w'' hw'' => ⟨?_, fun b hS => ?_⟩⟩
  · refine ⟨a, n, cap, 0, (hw'' _ (.inr rfl)).trans (heap_alloc_new w _), by omega, Nat.zero_le _, ?_⟩
    rcases h3 with h3 | ⟨blk, off, rfl, hr, hc⟩
    · exact .inl (by omega)
    · have hlt := hR blk hr
      rcases Nat.eq_zero_or_pos n with h0 | h0
      · exact .inl h0
      · refine .inr ⟨blk, off, rfl, ⟨hlt, by omega, off, rfl⟩, fun i hi => ?_⟩
        obtain ⟨x, hx0, hx1, hx⟩ := hb i (by omega)
        have h := (hc i 0 (by omega) (by omega)).1
        rw [hx, Nat.mul_one] at h
        exact ⟨x, hx0, hx1, by rw [World.cell?_of_block (w := w) (a := ⟨blk, off + i, none⟩) ((hw'' blk (.inl hr)).trans (heap_alloc_old w _ hlt))]; exact h⟩
  · obtain ⟨hl, off, rfl⟩ := hS
    rcases h3 with h3 | ⟨blk, off', e, hr, hc⟩
    · omega
    · cases e
      have hlt := hR b hr
      have h := (hc 0 0 hl (by omega)).1
      obtain ⟨cs, t, m, hcs⟩ := cells_of_cell h
      exact ⟨by omega, cs, t, m, ((hw'' b (.inl hr)).trans (heap_alloc_old w _ hlt)).trans hcs⟩
end Go.Proofs.YtmbjonckigcgdaaDoor.Cs
