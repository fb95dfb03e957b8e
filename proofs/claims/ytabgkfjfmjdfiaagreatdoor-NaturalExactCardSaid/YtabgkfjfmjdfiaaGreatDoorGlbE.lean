import Derived.Test.YtabgkfjfmjdfiaaGreatDoorPk4
import Derived.Test.YtabgkfjfmjdfiaaGreatDoorDrwB
import Derived.Test.YtabgkfjfmjdfiaaGreatDoorWalkE
import Derived.Test.YtabgkfjfmjdfiaaGreatDoorSetB
import Derived.Lib.LaidTab
import Derived.LaidSub
import Derived.MakeChecks

/- Frames that know what the program's variables hold. -/
set_option linter.unusedSimpArgs false
set_option linter.unusedVariables false
namespace Go.Proofs.YtabgkfjfmjdfiaaGreatDoor
namespace Eng
def LowFact (N : Nat) (T : World → Prop) : Prop := ∀ w w' : World, (∀ b, b < N → w'.heap[b]? = w.heap[b]?) → T w → T w'
theorem size_of_low {N : Nat} {w w' : World} (hN : N ≤ w.heap.size) (h : ∀ b, b < N → w'.heap[b]? = w.heap[b]?) : N ≤ w'.heap.size := by
  rcases Nat.eq_zero_or_pos N with rfl | hp
  · exact Nat.zero_le _
  · have h1 := h (N - 1) (by omega)
    have h2 : w.heap[N - 1]? = some (w.heap[N - 1]'(by omega)) := Array.getElem?_eq_getElem _
    rw [h2] at h1
    have := (Array.getElem?_eq_some_iff.1 h1).1
    omega
def Frm.tab (N : Nat) (T : World → Prop) (hT : LowFact N T) : Frm :=
  ⟨fun _ => False, fun b => b < N, fun w => N ≤ w.heap.size ∧ T w, fun _ h => h.elim, fun w b h hb => Nat.lt_of_lt_of_le hb h.1,
    fun w w' B h hB hw => have hl : ∀ b, b < N → w'.heap[b]? = w.heap[b]? := fun b hb => hw b (hB b hb); ⟨size_of_low h.1 hl, hT w w' hl h.2⟩⟩
def Frm.codesT (cb N : Nat) (T : World → Prop) (hT : LowFact N T) : Frm :=
  ⟨fun b => b = cb, fun b => b = cb ∨ b < N, fun w => Codes cb w ∧ N ≤ cb ∧ T w, fun _ h => .inl h,
    fun w b h hb => by
      have h1 := h.1.lt
      have h2 := h.2.1
      rcases hb with rfl | hb
      · exact h1
      · omega,
    fun w w' B h hB hw => ⟨h.1.kept fun k hk => hw k (Nat.lt_of_le_of_lt hk (hB cb (.inl rfl))), h.2.1, hT w w' (fun b hb => hw b (hB b (.inr hb))) h.2.2⟩⟩
variable {P : Program}
theorem Contract.lift {F F' : Frm} {f : FuncId} {args : List SV} {post : SV → Prop} (h : Contract F P f args post) (hM : ∀ b, F.M b → F'.M b) (hI : ∀ w, F'.Inv w → F.Inv w) (hI' : ∀ w w', F'.Inv w → F.Inv w' → Evo F.M w w' → F'.Inv w') : Contract F' P f args post :=
  ⟨h.enters, fun R w hi ha hR => (h.calls R w (hI w hi) ha (fun b hb => ⟨(hR b hb).1, fun hm => (hR b hb).2 (hM b hm)⟩)).mono fun e w' ⟨r, he, hp, hok, hev, hinv⟩ =>
    ⟨r, he, hp, hok, ⟨hev.os, hev.tape, hev.output, hev.size, fun b hb hn => hev.block b hb (fun hm => hn (hM b hm))⟩, hI' w w' hi hinv hev⟩⟩
theorem Contract.codesT {cb N : Nat} {T : World → Prop} {hT : LowFact N T} {f : FuncId} {args : List SV} {post : SV → Prop} (h : Contract (Frm.codes cb) P f args post) : Contract (Frm.codesT cb N T hT) P f args post :=
  h.lift (fun _ h => h) (fun w h => h.1) fun w w' h hc hev => ⟨hc, h.2.1, hT w w' (fun b hb => hev.block b (by have := h.1.lt; have := h.2.1; omega) (fun e => by have e : b = cb := e; have := h.2.1; omega)) h.2.2⟩
theorem Contract.tabT {cb N : Nat} {T : World → Prop} {hT : LowFact N T} {f : FuncId} {args : List SV} {post : SV → Prop} (h : Contract (Frm.tab N T hT) P f args post) : Contract (Frm.codesT cb N T hT) P f args post :=
  h.lift (fun _ h => h.elim) (fun w h => ⟨by have := h.1.lt; have := h.2.1; omega, h.2.2⟩) fun w w' h hc hev => ⟨h.1.kept fun k hk => hev.block k (by have := h.1.lt; omega) (fun h => h), h.2.1, hc.2⟩
theorem Sat.switchT {n : Nat} {env : List (Nat × SV)} {own : List Own} {c : Code} {K : Exit → St → Prop} {cb id N : Nat} {T : World → Prop} {hT : LowFact N T} (hid : own[id]? = some (.res cb (Codes cb)))
    (h : Sat P (Frm.codesT cb N T hT) c ⟨n, env, []⟩ K) : Sat P (Frm.tab N T hT) c ⟨n, env, own⟩ K := by
  rintro R0 w0 a w ⟨ob, R, hr⟩
  obtain ⟨h1, h2, h3, h4⟩ := hr.own _ _ hid
  have hN : N ≤ cb := by
    rcases Nat.eq_zero_or_pos N with rfl | hp
    · exact Nat.zero_le _
    · have := hr.obM (N - 1) (show N - 1 < N by omega)
      omega
  have hrel : RelR (Frm.codesT cb N T hT) R0 w0 w.heap.size R ⟨n, env, []⟩ a w :=
    ⟨hr.defers, hr.env, hr.size, fun i o ho => by simp at ho, fun i j o o' _ ho => by simp at ho, ⟨hr.evo.os, hr.evo.tape, hr.evo.output, hr.evo.size, fun b hb hm => hr.evo.block b hb (fun h => h.elim (fun h => h.elim) (fun h => hm (.inr h)))⟩, ⟨h4 w (fun _ _ => rfl), hN, hr.inv.2⟩,
      fun b hb => by
        rcases hb with rfl | hb
        · exact h3
        · have := hr.inv.1; omega, fun i o ho => by simp at ho, Nat.le_refl _, fun b hb => ⟨(hr.rr b hb).1, fun hm => by have hm : b = cb := hm; subst hm; exact h2 hb, (hr.rr b hb).2.2⟩, hr.r0⟩
  refine wp_mono (h R0 w0 a w ⟨_, R, hrel⟩) ?_
  rintro e a' w' ⟨st', hk, ob', R', hr'⟩
  have hcb : w0.w.heap.size ≤ cb ∨ w0.G cb := hr.gb _ _ hid cb rfl
  refine ⟨st', hk, ob', R', hr'.defers, hr'.env, hr'.size, hr'.own, hr'.dist, ⟨hr'.evo.os, hr'.evo.tape, hr'.evo.output, hr'.evo.size, fun b hb hn => hr'.evo.block b hb (fun hm => by
    rcases hm with hm | hm
    · have hm : b = cb := hm
      subst hm
      rcases hcb with h9 | h9
      · omega
      · exact hn (.inr h9)
    · exact hn (.inr hm))⟩, ⟨by have := hr'.inv.1.lt; have := hr'.inv.2.1; omega, hr'.inv.2.2⟩, fun b hb => hr'.obM b (.inr hb), hr'.gb, hr'.obw, fun b hb => ⟨(hr'.rr b hb).1, fun h => h, (hr'.rr b hb).2.2⟩, hr'.r0⟩
end Eng
open Go.RowKit Eng
theorem walk_ofT {P : Program} {f : FuncId} {args : List SV} {N : Nat} {T : World → Prop} {hT : LowFact N T} (h : Contract (Frm.tab N T hT) P f args (fun r => r = .b true)) {w : World} (hN : N ≤ w.heap.size) (hw : T w) (ha : ∀ s ∈ args, s.ok (fun b => b < w.heap.size) w) :
    Calls P f (args.map SV.den).toArray w fun e w' => e = .returned (.bool true) ∧ Below w.heap.size w w' :=
  (h.calls _ w ⟨hN, hw⟩ ha (fun b hb => ⟨hb, fun h => h⟩)).mono fun e w' ⟨r, he, hr, _, hevo, _⟩ => by
    subst hr
    exact ⟨he, ⟨hevo.os, hevo.tape, hevo.output, hevo.size, fun b hb => hevo.block b hb (fun h => h)⟩⟩
theorem laid_mem {P : Program} {w : World} {n : String} {d : DataW Unit} : ∀ {l : List (String × DataW Unit)} {ps : List MemPlace}, DataW.LaidVars P w l ps → (n, d) ∈ l →
    ∃ g t cs fuel p, P.globalNamed n = some g ∧ (P.globals[g]?).map (·.type) = some t ∧ w.var? P n = some cs ∧ DataW.trod (fun _ => ()) P w 0 (fun _ => true) false fuel t cs.toList = some (d, p)
  | [], ps, h, hm => by cases hm
  | (n', d') :: r, ps, h, hm => by
    obtain ⟨g, t, cs, fuel, p, q, e1, e2, e3, e4, hr, rfl⟩ := h
    rcases List.mem_cons.1 hm with hm | hm
    · cases hm
      exact ⟨g, t, cs, fuel, p, e1, e2, e3, e4⟩
    · exact laid_mem hr hm
theorem laid_tab {P : Program} {w : World} {l : List (String × DataW Unit)} (h : laidMetH P l w) (hp : (l.all fun x => x.2.handleName?.isNone) = true) {n : String} {k : IntKind} {zs : List Int} (hm : (n, Lib.tabData k zs) ∈ l) {g : Nat} {t e : TypeId} {m : Nat}
    (hg : P.globalNamed n = some g) (hty : (P.globals[g]?).map (·.type) = some t) (ht : P.underlying t = some (.array m e)) (he : P.underlying e = some (.int k)) (hce : P.cellsOf e = 1) (hct : P.cellsOf t = m) : Lib.TabIs P w n k zs := by
  rw [MakeChecks.laidMetH_plain _ _ _ hp] at h
  obtain ⟨ps, hl, _, _⟩ := h
  obtain ⟨g', t', cs, fuel, p, hg', ht', hvar, hd⟩ := laid_mem hl hm
  obtain rfl := Option.some.inj (hg.symm.trans hg')
  obtain rfl := Option.some.inj (hty.symm.trans ht')
  unfold Lib.TabIs
  rw [hvar, ← Lib.cells_of_tab ht he hce hct hd]
theorem var_low {P : Program} {n : String} {g N : Nat} (hg : P.globalNamed n = some g) (hN : g < N) {w w' : World} (h : ∀ b, b < N → w'.heap[b]? = w.heap[b]?) : w'.var? P n = w.var? P n := by
  unfold World.var?
  rw [hg]
  simp only [Option.bind_some, h g hN]
theorem tab_low {P : Program} {n : String} {k : IntKind} {zs : List Int} {g N : Nat} (hg : P.globalNamed n = some g) (hN : g < N) : LowFact N (fun w => Lib.TabIs P w n k zs) := by
  intro w w' h ht
  unfold Lib.TabIs at *
  rw [var_low hg hN h]; exact ht
theorem LowFact.and {N : Nat} {S T : World → Prop} (h : LowFact N S) (h' : LowFact N T) : LowFact N (fun w => S w ∧ T w) := fun w w' hw ⟨a, b⟩ => ⟨h w w' hw a, h' w w' hw b⟩
theorem LowFact.mono {N M : Nat} {S : World → Prop} (h : LowFact N S) (hm : N ≤ M) : LowFact M S := fun w w' hw a => h w w' (fun b hb => hw b (by omega)) a
end Go.Proofs.YtabgkfjfmjdfiaaGreatDoor
