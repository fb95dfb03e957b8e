/- The evaluator, part O: a row of the call's own that is only read from now on; regions that draw their order, by a tree of orders. -/
import Derived.Test.YtepkbbmjbbnhnaaGreatDoorPk2
set_option linter.unusedSimpArgs false
set_option linter.unusedVariables false
namespace Go.Proofs.YtepkbbmjbbnhnaaGreatDoor
namespace Eng
section
variable {P : Program} {F : Frm} {n : Nat} {env : List (Nat × SV)} {own : List Own}
theorem Sat.settle {c : Code} {K : Exit → St → Prop} (t : Nat) {id len cap sz : Nat} {a : Option Addr} {rd : Nat → Nat → SV} {own' : List Own} (hl : look env t = some (.os id a len cap)) (ho : frz own [.os id a len cap] = own') (hf : asRead own' (.os id a len cap) = some (a, len, cap, sz, rd))
    (h : Sat P F c ⟨n, (t, .sl a len cap sz rd) :: env, own'⟩ K) : Sat P F c ⟨n, env, own⟩ K := by
  subst ho
  rintro R0 w0 ac w ⟨ob, R, hr⟩
  obtain ⟨R', hRR, hr'⟩ := hr.frz [.os id a len cap]
  refine h R0 w0 ac w ⟨ob, R', ?_⟩
  have h1 := hr'.env t _ hl
  have h2 := (asRead_ok (st := ⟨n, env, frz own [.os id a len cap]⟩) hf hr'.own h1.2).2
  refine ⟨hr'.defers, ?_, hr'.size, hr'.own, hr'.dist, hr'.evo, hr'.inv, hr'.obM, hr'.gb, hr'.obw, hr'.rr, hr'.r0⟩
  intro u s hu
  simp only [look] at hu
  split at hu
  · rename_i e
    simp only [Option.some.injEq] at hu
    subst hu
    subst e
    exact ⟨h1.1, h2⟩
  · exact hr'.env u s hu
theorem Sat.settle2 {c : Code} {K : Exit → St → Prop} (t : Nat) {id e len cap sz : Nat} {a : Option Addr} {rd : Nat → Nat → SV} (hl : look env t = some (.os id a len cap)) (ho : own[id]? = some (.row a e len cap sz rd))
    (h : Sat P F c ⟨n, (t, .sl a len cap sz rd) :: env, own.set id (.frz a len cap sz rd)⟩ K) : Sat P F c ⟨n, env, own⟩ K := by
  have hlt : id < own.length := (List.getElem?_eq_some_iff.1 ho).1
  have h1 : frz own [.os id a len cap] = own.set id (.frz a len cap sz rd) := by
    simp [frz, frzOne, ho]
  refine Sat.settle t hl h1 ?_ h
  simp [asRead, hlt]
end
section
variable {P : Program} {F : Frm}
variable {l : List Oper} {md : Region.Mode} {Q : Exit → Act → World → Prop} {k : St → Prop} {R0 : Nat → Prop} {w0 : Org}
theorem list_get {i : Nat} {o : Oper} (h : l.toArray[i]? = some o) : l.getD i default = o := by
  have : l[i]? = some o := by simpa using h
  simp [List.getD, this]
theorem tree_one (hpan : ∀ c a w, ¬ Q (.panic c) a w) {i : Nat} {o : Oper} (hi : l.toArray[i]? = some o) {st : St} {a : Act} {w : World} {k' : St → Prop} (h : WO P F (l.toArray.toList.map (·.dst)) [o] st k') (hr : Rel F R0 w0 st a w)
    {K : Act → World → Prop} (hK : ∀ st' a' w', k' st' → Rel F R0 w0 st' a' w' → K a' w') : wpOp P l.toArray Q i K a w := by
  unfold wpOp
  simp only [hi]
  rcases wo_cases h hr with ⟨hw, st1, hr1, hd, hs⟩ | ⟨hw, st1, ⟨ob, R, hr1⟩, hd, hs⟩
  · rw [if_pos hw]
    exact .inl (stepO_good hd hs _ _ _ _ o _ _ rfl rfl hr1 fun st' a' w' h' hr' => hK st' a' w' h' hr')
  · rw [if_neg (by rw [hw]; exact Bool.false_ne_true)]
    exact hK _ _ _ hs ⟨ob, R, hr1.put (s := .v undef) (dstOk_of hd) trivial⟩
end
/-! ### Loads that may come at any time, beside calls that keep what they read -/
section
variable {P : Program} {ops : Array Oper} {md : Region.Mode} {Q : Exit → Act → World → Prop} {T : World → Prop} {W : Nat → Bool}
def wpAnyT (P : Program) (md : Region.Mode) (ops : Array Oper) (Q : Exit → Act → World → Prop) (T : World → Prop) (W : Nat → Bool) : Nat → Bool → Array Bool → Act → World → Prop
  | 0, _, listed, a, w => Region.ready md ops listed = [] ∧ Q .normal a w
  | f + 1, b, listed, a, w => (Region.ready md ops listed = [] → Q .normal a w) ∧ ∀ j ∈ Region.ready md ops listed, wpOp P ops Q j (fun a' w' => ((b && W j) = true → T w') ∧ wpAnyT P md ops Q T W f (b && W j) (listed.setIfInBounds j true) a' w') a w
theorem wpAny_of_T : ∀ (f : Nat) (b : Bool) (listed : Array Bool) (a : Act) (w : World), wpAnyT P md ops Q T W f b listed a w → wpAny P md ops Q f listed a w
  | 0, _, _, _, _, h => h
  | f + 1, _, _, _, _, h => ⟨h.1, fun j hj => wpOp_mono (fun a' w' hk => wpAny_of_T f _ _ a' w' hk.2) (h.2 j hj)⟩
theorem wpOp_putT {C : World → Prop} {j : Nat} {oi oj : Oper} {v : Value} (hj : ops[j]? = some oj) (hap : oi.apart ops oj = true) (hpan : ∀ c a w, ¬ Q (.panic c) a w)
    (hsi : ∀ cs b, oi.op ≠ .select cs b) (hsj : ∀ cs b, oj.op ≠ .select cs b) {K : Act → World → Prop} {a : Act} {w : World}
    (hy : Fixed P ops C oi v a) (h : wpOp P ops Q j K (a.put oi.dst v) w) : wpOp P ops Q j (fun a' w' => Fixed P ops C oi v a' ∧ K (a'.put oi.dst v) w') a w := by
  obtain ⟨h1, h2, h3⟩ := Oper.apart_spec hap
  unfold wpOp at *
  simp only [hj] at *
  rw [wanted_put oj a oi.dst v h1] at h
  split
  · rename_i hw
    simp only [hw, if_true] at h
    rcases h with h | ⟨h, hl⟩
    · exact .inl (wp_put hap hpan hsi hsj hy h)
    · refine .inr ⟨?_, hl⟩
      unfold Oper.asks at *
      rwa [execOp_put oj hsj a oi.dst v h1] at h
  · rename_i hw
    simp only [hw] at h
    exact ⟨hy.of_same (execOp_put oi hsi a oj.dst undef h3) (wanted_put oi a oj.dst undef h3), by rw [← Act.put_comm a v undef h2]; exact h⟩
theorem getD_mono {listed : Array Bool} {i : Nat} (h : listed.getD i true = false) : listed.getD i false = false := by
  rcases Nat.lt_or_ge i listed.size with h' | h'
  · simp [h'] at h ⊢; exact h
  · simp [Array.getElem?_eq_none h'] at h
theorem wpAnyT_first {i : Nat} {oi : Oper} {v : Value} (Bl : Nat → Bool) (hpan : ∀ c a w, ¬ Q (.panic c) a w) (hi : ops[i]? = some oi) (hsel : ∀ (j : Nat) (o : Oper) cs b, ops[j]? = some o → o.op ≠ .select cs b) (hWi : W i = true)
    (hblk : ∀ j oj, ops[j]? = some oj → Bl j = true → j ≠ i → ∃ e ∈ oj.after, Region.binds md e = true ∧ Bl e.on = true) :
    ∀ (fuel : Nat) (listed : Array Bool) (a : Act) (w : World), T w → (∀ j, Bl j = true → listed.getD j false = false) →
      (∀ j oj, ops[j]? = some oj → j ≠ i → listed.getD j true = false → (∀ e ∈ oj.after, Region.binds md e = true → e.on ≠ i) → oi.apart ops oj = true ∧ (Bl j = false → W j = true)) →
      i ∈ Region.ready md ops listed → Fixed P ops T oi v a →
      wpAnyT P md ops Q T W fuel true (listed.setIfInBounds i true) (a.put oi.dst v) w → wpAnyT P md ops Q T W (fuel + 1) true listed a w := by
  intro fuel
  have free : ∀ (listed : Array Bool), (∀ j, Bl j = true → listed.getD j false = false) → ∀ j, j ∈ Region.ready md ops listed → j ≠ i → Bl j = false := by
    intro listed hb j hj hji
    obtain ⟨hjun, oj, hoj, hall⟩ := mem_ready.1 hj
    cases hbl : Bl j with
    | false => rfl
    | true =>
      obtain ⟨e, he, hbd, hon⟩ := hblk j oj hoj hbl hji
      have h1 := hall e he hbd
      rw [hb _ hon] at h1
      cases h1
  have ei : (true && W i) = true := by rw [hWi]; rfl
  induction fuel with
  | zero =>
    intro listed a w hT hb _ hr hy H
    refine ⟨fun h => (by rw [h] at hr; cases hr), fun j hj => ?_⟩
    by_cases hji : j = i
    · subst hji; exact hy.wpOp hi hT ⟨fun _ => hT, by rw [ei]; exact H⟩
    · have := ready_mono hj hji
      rw [H.1] at this
      cases this
  | succ fuel ih =>
    intro listed a w hT hb hfree hr hy H
    refine ⟨fun h => (by rw [h] at hr; cases hr), fun j hj => ?_⟩
    by_cases hji : j = i
    · subst hji; exact hy.wpOp hi hT ⟨fun _ => hT, by rw [ei]; exact H⟩
    · have h1 := H.2 j (ready_mono hj hji)
      have hnb := free listed hb j hj hji
      obtain ⟨hjun, oj, hoj, hall⟩ := mem_ready.1 hj
      have hnot : ∀ e ∈ oj.after, Region.binds md e = true → e.on ≠ i := fun e he hbd heq => by
        have h1 := hall e he hbd
        have h0 := (mem_ready.1 hr).1
        rw [heq, getD_mono h0] at h1
        cases h1
      obtain ⟨hap, hW⟩ := hfree j oj hoj hji hjun hnot
      have ej : (true && W j) = true := by rw [hW hnb]; rfl
      rw [ej] at h1 ⊢
      have h2 := wpOp_putT hoj hap hpan (fun cs b => hsel i oi cs b hi) (fun cs b => hsel j oj cs b hoj) hy h1
      refine wpOp_mono (fun a' w' h3 => ⟨h3.2.1, ih (listed.setIfInBounds j true) a' w' (h3.2.1 rfl) (fun b hbb => ?_) (fun k ok hk hki hun hno => hfree k ok hk hki ?_ hno) (ready_mono hr (Ne.symm hji)) h3.1 ?_⟩) h2
      · have hne : j ≠ b := fun e => by subst e; rw [hnb] at hbb; cases hbb
        rw [getD_set_ne false hne]
        exact hb b hbb
      · by_cases hjk : j = k
        · subst hjk; exact hjun
        · rw [getD_set_ne true hjk] at hun; exact hun
      · rw [Array.setIfInBounds_comm _ _ hji]
        exact h3.2.2
theorem wpAnyT_wless {i : Nat} {oi : Oper} {v : Value} (hpan : ∀ c a w, ¬ Q (.panic c) a w) (hi : ops[i]? = some oi) (hsel : ∀ (j : Nat) (o : Oper) cs b, ops[j]? = some o → o.op ≠ .select cs b) :
    ∀ (fuel : Nat) (b : Bool) (listed : Array Bool) (a : Act) (w : World), (b = true → W i = true ∧ T w) →
      (∀ j oj, ops[j]? = some oj → j ≠ i → listed.getD j true = false → (∀ e ∈ oj.after, Region.binds md e = true → e.on ≠ i) → oi.apart ops oj = true) →
      i ∈ Region.ready md ops listed → Fixed P ops (fun _ => True) oi v a →
      wpAnyT P md ops Q T W fuel b (listed.setIfInBounds i true) (a.put oi.dst v) w → wpAnyT P md ops Q T W (fuel + 1) b listed a w := by
  intro fuel
  have eb : ∀ {b : Bool} {w : World}, (b = true → W i = true ∧ T w) → (b && W i) = b := fun {b w} h => by
    cases b with
    | false => rfl
    | true => rw [(h rfl).1]; rfl
  induction fuel with
  | zero =>
    intro b listed a w hb _ hr hy H
    refine ⟨fun h => (by rw [h] at hr; cases hr), fun j hj => ?_⟩
    by_cases hji : j = i
    · subst hji
      rw [eb hb]
      exact hy.wpOp hi trivial ⟨fun h => (hb h).2, H⟩
    · have := ready_mono hj hji
      rw [H.1] at this
      cases this
  | succ fuel ih =>
    intro b listed a w hb hfree hr hy H
    refine ⟨fun h => (by rw [h] at hr; cases hr), fun j hj => ?_⟩
    by_cases hji : j = i
    · subst hji
      rw [eb hb]
      exact hy.wpOp hi trivial ⟨fun h => (hb h).2, H⟩
    · have h1 := H.2 j (ready_mono hj hji)
      obtain ⟨hjun, oj, hoj, hall⟩ := mem_ready.1 hj
      have hnot : ∀ e ∈ oj.after, Region.binds md e = true → e.on ≠ i := fun e he hbd heq => by
        have h1 := hall e he hbd
        have h0 := (mem_ready.1 hr).1
        rw [heq, getD_mono h0] at h1
        cases h1
      have h2 := wpOp_putT hoj (hfree j oj hoj hji hjun hnot) hpan (fun cs b => hsel i oi cs b hi) (fun cs b => hsel j oj cs b hoj) hy h1
      refine wpOp_mono (fun a' w' h3 => ⟨h3.2.1, ih (b && W j) (listed.setIfInBounds j true) a' w' (fun h9 => ⟨?_, h3.2.1 h9⟩) (fun k ok hk hki hun hno => hfree k ok hk hki ?_ hno) (ready_mono hr (Ne.symm hji)) h3.1 ?_⟩) h2
      · simp only [Bool.and_eq_true] at h9
        exact (hb h9.1).1
      · by_cases hjk : j = k
        · subst hjk; exact hjun
        · rw [getD_set_ne true hjk] at hun; exact hun
      · rw [Array.setIfInBounds_comm _ _ hji]
        exact h3.2.2
def blkA (md : Region.Mode) (ops : Array Oper) (k : Nat) : Array Bool :=
  (List.range ops.size).foldl (fun acc j => acc.push (j == k || match ops[j]? with | some o => o.after.any (fun e => Region.binds md e && acc.getD e.on false) | none => false)) #[]
def blkOk (md : Region.Mode) (ops : Array Oper) (k : Nat) (B : Array Bool) (listed : Array Bool) (W : Nat → Bool) : Bool :=
  (B.size == ops.size) && (List.range ops.size).all fun j => (!B.getD j false || ((j == k || match ops[j]? with | some o => o.after.any (fun e => Region.binds md e && B.getD e.on false) | none => false) && !listed.getD j false)) && (j == k || listed.getD j true || B.getD j false || W j)
inductive BT where
  | done
  | free (i : Nat) (t : BT)
  | one (i : Nat) (t : BT)
  | alt (i : Nat) (t : BT) (rest : BT)
  | none
def BT.heads : BT → List Nat
  | .alt i _ r => i :: r.heads
  | _ => []
def btGo (md : Region.Mode) (ops : Array Oper) : BT → Bool → Nat → Array Bool → Bool
  | .done, _, m, listed => m == 0 && (Region.ready md ops listed).isEmpty
  | .free k t, _, m + 1, listed => (Region.ready md ops listed).contains k && (match ops[k]? with | some o => wless o.op | none => false) && Region.free md ops listed k && btGo md ops t true m (listed.setIfInBounds k true)
  | .one k t, _, m + 1, listed => Region.ready md ops listed == [k] && (ops[k]?).isSome && btGo md ops t true m (listed.setIfInBounds k true)
  | .alt i t r, top, m + 1, listed => (!top || (Region.ready md ops listed).all fun j => (i :: r.heads).contains j) && !(Region.ready md ops listed).isEmpty && (ops[i]?).isSome && btGo md ops t true m (listed.setIfInBounds i true) && btGo md ops r false (m + 1) listed
  | .none, top, _, _ => !top
  | _, _, _, _ => false
def PreP (md : Region.Mode) (ops : Array Oper) (bt : BT) (m : Nat) (W : Nat → Bool) : List Nat → Array Bool → Prop
  | [], listed => btGo md ops bt true m listed = true
  | k :: r, listed => k ∈ Region.ready md ops listed ∧ Region.free md ops listed k = true ∧ W k = true ∧
      (∃ o, ops[k]? = some o ∧ (wless o.op = true ∨ loadOp o.op = true ∧
        ∃ Bl : Nat → Bool, (∀ j oj, ops[j]? = some oj → Bl j = true → j ≠ k → ∃ e ∈ oj.after, Region.binds md e = true ∧ Bl e.on = true) ∧ (∀ j, Bl j = true → listed.getD j false = false) ∧
          ∀ j, j < ops.size → j = k ∨ listed.getD j true = true ∨ Bl j = true ∨ W j = true)) ∧ PreP md ops bt m W r (listed.setIfInBounds k true)
def keepGo (md : Region.Mode) (ops : Array Oper) (bt : BT) (m : Nat) (W : Nat → Bool) : List Nat → Array Bool → Bool
  | [], listed => btGo md ops bt true m listed
  | k :: r, listed => (Region.ready md ops listed).contains k && Region.free md ops listed k && W k && (match ops[k]? with | some o => wless o.op || (loadOp o.op && blkOk md ops k (blkA md ops k) listed W) | none => false) && keepGo md ops bt m W r (listed.setIfInBounds k true)
theorem blk_of {k : Nat} {listed : Array Bool} {W : Nat → Bool} (hblk : blkOk md ops k (blkA md ops k) listed W = true) : ∃ Bl : Nat → Bool, (∀ j oj, ops[j]? = some oj → Bl j = true → j ≠ k → ∃ e ∈ oj.after, Region.binds md e = true ∧ Bl e.on = true) ∧ (∀ j, Bl j = true → listed.getD j false = false) ∧
    ∀ j, j < ops.size → j = k ∨ listed.getD j true = true ∨ Bl j = true ∨ W j = true := by
  refine ⟨fun j => (blkA md ops k).getD j false, ?_⟩
  simp only [blkOk, Bool.and_eq_true, beq_iff_eq] at hblk
  obtain ⟨hsz, hall⟩ := hblk
  have hin : ∀ j, (blkA md ops k).getD j false = true → j < ops.size := fun j hj => by
    rcases Nat.lt_or_ge j ops.size with h | h
    · exact h
    · rw [← hsz] at h
      simp [Array.getElem?_eq_none h] at hj
  have hrow : ∀ j, j < ops.size → ((blkA md ops k).getD j false = true → (j = k ∨ ∃ oj, ops[j]? = some oj ∧ ∃ e ∈ oj.after, Region.binds md e = true ∧ (blkA md ops k).getD e.on false = true) ∧ listed.getD j false = false) ∧ (j = k ∨ listed.getD j true = true ∨ (blkA md ops k).getD j false = true ∨ W j = true) := by
    intro j hj
    have h1 := List.all_eq_true.1 hall j (List.mem_range.2 hj)
    simp only [Bool.and_eq_true, Bool.or_eq_true, beq_iff_eq, Bool.not_eq_true'] at h1
    obtain ⟨h1, h2⟩ := h1
    refine ⟨fun hb => ?_, ?_⟩
    · rcases h1 with h1 | ⟨h1, h3⟩
      · rw [hb] at h1; cases h1
      · refine ⟨?_, h3⟩
        rcases h1 with h1 | h1
        · exact .inl h1
        · right
          cases hj2 : ops[j]? with
          | none => rw [hj2] at h1; cases h1
          | some oj =>
            rw [hj2] at h1
            obtain ⟨e, he, hb2⟩ := Array.any_eq_true'.1 h1
            simp only [Bool.and_eq_true] at hb2
            exact ⟨oj, rfl, e, he, hb2⟩
    · rcases h2 with ((h2 | h2) | h2) | h2
      · exact .inl h2
      · exact .inr (.inl h2)
      · exact .inr (.inr (.inl h2))
      · exact .inr (.inr (.inr h2))
  refine ⟨fun j oj hj hb hne => ?_, fun j hb => ((hrow j (hin j hb)).1 hb).2, fun j hj => (hrow j hj).2⟩
  rcases ((hrow j (hin j hb)).1 hb).1 with h9 | ⟨oj', h9, e, he, hb2⟩
  · exact absurd h9 hne
  · obtain rfl : oj = oj' := Option.some.inj (hj.symm.trans h9)
    exact ⟨e, he, hb2⟩
theorem preP_of {bt : BT} {m : Nat} {W : Nat → Bool} : ∀ (ls : List Nat) (listed : Array Bool), keepGo md ops bt m W ls listed = true → PreP md ops bt m W ls listed
  | [], listed, h => h
  | k :: r, listed, h => by
    simp only [keepGo, Bool.and_eq_true] at h
    obtain ⟨⟨⟨⟨hready, hfree⟩, hW⟩, hk⟩, hB'⟩ := h
    refine ⟨by simpa using hready, hfree, hW, ?_, preP_of r _ hB'⟩
    cases hi : ops[k]? with
    | none => rw [hi] at hk; cases hk
    | some o =>
      rw [hi] at hk
      simp only [Bool.or_eq_true, Bool.and_eq_true] at hk
      exact ⟨o, rfl, hk.imp id fun h9 => ⟨h9.1, blk_of h9.2⟩⟩
def keepW (ls ws : List Nat) : Nat → Bool := fun j => ls.contains j || ws.contains j
end
section
variable {P : Program} {F : Frm}
def WBT (P : Program) (F : Frm) (ds : List (Option Tmp)) (l : List Oper) (own0 : List Own) (W : Nat → Bool) : Bool → BT → St → (St → Prop) → Prop
  | _, .done, st, k => k st
  | b, .free i t, st, k => (b = true → W i = true ∧ st.own.take own0.length = own0) ∧ WO P F ds [l.getD i default] st (fun st' => WBT P F ds l own0 W b t st' k)
  | b, .one i t, st, k => WO P F ds [l.getD i default] st (fun st' => ((b && W i) = true → st'.own.take own0.length = own0) ∧ WBT P F ds l own0 W (b && W i) t st' k)
  | b, .alt i t r, st, k => WO P F ds [l.getD i default] st (fun st' => ((b && W i) = true → st'.own.take own0.length = own0) ∧ WBT P F ds l own0 W (b && W i) t st' k) ∧ WBT P F ds l own0 W b r st k
  | _, .none, _, _ => True
variable {l : List Oper} {md : Region.Mode} {Q : Exit → Act → World → Prop} {k : St → Prop} {R0 : Nat → Prop} {w0 : Org} {T : World → Prop} {W : Nat → Bool}
theorem wbt_sound (hpan : ∀ c a w, ¬ Q (.panic c) a w) (hsel : Region.noSelect l.toArray = true) (own0 : List Own) (hT : ∀ st' a' w', Rel F R0 w0 st' a' w' → st'.own.take own0.length = own0 → T w') : ∀ (t : BT) (b top : Bool) (m : Nat) (listed : Array Bool) (st : St) (a : Act) (w : World), btGo md l.toArray t top m listed = true →
    WBT P F (l.toArray.toList.map (·.dst)) l own0 W b t st k → Rel F R0 w0 st a w → (∀ st' a' w', k st' → Rel F R0 w0 st' a' w' → Q .normal a' w') →
    (top = true → wpAnyT P md l.toArray Q T W m b listed a w) ∧ (∀ j ∈ t.heads, ∃ m', m = m' + 1 ∧ wpOp P l.toArray Q j (fun a' w' => ((b && W j) = true → T w') ∧ wpAnyT P md l.toArray Q T W m' (b && W j) (listed.setIfInBounds j true) a' w') a w)
  | .done, b, top, m, listed, st, a, w, hB, h, hr, hk => by
    refine ⟨fun _ => ?_, fun j hj => by cases hj⟩
    simp only [btGo, Bool.and_eq_true, beq_iff_eq] at hB
    obtain ⟨rfl, hB⟩ := hB
    exact ⟨by simpa using hB, hk _ _ _ h hr⟩
  | .none, b, top, m, listed, st, a, w, hB, h, hr, hk => by
    refine ⟨fun ht => ?_, fun j hj => by cases hj⟩
    subst ht
    simp [btGo] at hB
  | .one i t, b, top, 0, listed, st, a, w, hB, h, hr, hk => by simp [btGo] at hB
  | .free i t, b, top, 0, listed, st, a, w, hB, h, hr, hk => by simp [btGo] at hB
  | .free i t, b, top, m + 1, listed, st, a, w, hB, h, hr, hk => by
    refine ⟨fun _ => ?_, fun j hj => by cases hj⟩
    simp only [btGo, Bool.and_eq_true] at hB
    obtain ⟨⟨⟨hready, hwl⟩, hfree⟩, hB'⟩ := hB
    cases hi : l.toArray[i]? with
    | none => rw [hi] at hwl; cases hwl
    | some o =>
    rw [hi] at hwl
    have hwl' : wless o.op = true := hwl
    simp only [WBT, list_get hi] at h
    obtain ⟨hbi, h⟩ := h
    have hready' : i ∈ Region.ready md l.toArray listed := by simpa using hready
    have next : ∀ {st' : St} {a' : Act}, WBT P F (l.toArray.toList.map (·.dst)) l own0 W b t st' k → Rel F R0 w0 st' a' w → wpAnyT P md l.toArray Q T W m b (listed.setIfInBounds i true) a' w := fun h' hr' =>
      (wbt_sound hpan hsel own0 hT t b true m _ _ _ _ hB' h' hr' hk).1 rfl
    have fixed : ∃ v, Fixed P l.toArray (fun _ => True) o v a ∧ wpAnyT P md l.toArray Q T W m b (listed.setIfInBounds i true) (a.put o.dst v) w := by
      rcases wo_cases h hr with ⟨hw, st1, ⟨ob, R, hr1⟩, hd, hs⟩ | ⟨hw, st1, ⟨ob, R, hr1⟩, hd, hs⟩
      · obtain ⟨s, hs, hv⟩ := stepO_plain (.inl hwl') hs
        obtain ⟨hok, hy, hall⟩ := hv R _ a w hr1.env hr1.own
        exact ⟨s.den, .inl ⟨hw, fun w' hw' => hall hwl' w' o rfl⟩, next hs ⟨ob, R, hr1.put (dstOk_of hd) hok⟩⟩
      · exact ⟨undef, .inr ⟨hw, rfl⟩, next hs ⟨ob, R, hr1.put (s := .v undef) (dstOk_of hd) trivial⟩⟩
    obtain ⟨v, hf, hn⟩ := fixed
    exact wpAnyT_wless hpan hi (Region.noSelect_spec hsel) m b listed a w (fun h9 => ⟨(hbi h9).1, hT _ _ _ hr (hbi h9).2⟩) (fun j oj hj hne hun hno => Region.free_spec hi hfree j oj hj hne hun hno) hready' hf hn
  | .alt i t r, b, top, 0, listed, st, a, w, hB, h, hr, hk => by simp [btGo] at hB
  | .one i t, b, top, m + 1, listed, st, a, w, hB, h, hr, hk => by
    refine ⟨fun _ => ?_, fun j hj => by cases hj⟩
    simp only [btGo, Bool.and_eq_true, beq_iff_eq] at hB
    obtain ⟨⟨hone, his⟩, hB'⟩ := hB
    obtain ⟨o, hi⟩ := Option.isSome_iff_exists.1 his
    refine ⟨fun h0 => (by rw [hone] at h0; cases h0), fun j hj => ?_⟩
    rw [hone] at hj
    obtain rfl : j = i := by simpa using hj
    simp only [WBT, list_get hi] at h
    exact tree_one hpan hi h hr fun st' a' w' h' hr' => ⟨fun hWj => hT _ _ _ hr' (h'.1 hWj), (wbt_sound hpan hsel own0 hT t _ true m _ _ _ _ hB' h'.2 hr' hk).1 rfl⟩
  | .alt i t r, b, top, m + 1, listed, st, a, w, hB, h, hr, hk => by
    simp only [btGo, Bool.and_eq_true] at hB
    obtain ⟨⟨⟨⟨hcov, hne⟩, his⟩, hB1⟩, hB2⟩ := hB
    obtain ⟨h1, h2⟩ := h
    obtain ⟨o, hi⟩ := Option.isSome_iff_exists.1 his
    rw [list_get hi] at h1
    have heads : ∀ j ∈ (BT.alt i t r).heads, ∃ m', m + 1 = m' + 1 ∧ wpOp P l.toArray Q j (fun a' w' => ((b && W j) = true → T w') ∧ wpAnyT P md l.toArray Q T W m' (b && W j) (listed.setIfInBounds j true) a' w') a w := by
      intro j hj
      rcases List.mem_cons.1 hj with rfl | hj
      · exact ⟨m, rfl, tree_one hpan hi h1 hr fun st' a' w' h' hr' => ⟨fun hWj => hT _ _ _ hr' (h'.1 hWj), (wbt_sound hpan hsel own0 hT t _ true m _ _ _ _ hB1 h'.2 hr' hk).1 rfl⟩⟩
      · exact (wbt_sound hpan hsel own0 hT r b false (m + 1) listed st a w hB2 h2 hr hk).2 j hj
    refine ⟨fun ht => ?_, heads⟩
    subst ht
    refine ⟨fun h0 => (by rw [h0] at hne; simp at hne), fun j hj => ?_⟩
    have hj' : j ∈ (BT.alt i t r).heads := by
      have hcov' : ∀ x ∈ Region.ready md l.toArray listed, x = i ∨ x ∈ r.heads := by simpa using hcov
      simpa [BT.heads] using hcov' j hj
    obtain ⟨m', hm, hw⟩ := heads j hj'
    obtain rfl : m' = m := by omega
    exact hw
theorem wo_casesR {o : Oper} {rest : List Oper} {st : St} {a : Act} {w : World} (h : WO P F (l.toArray.toList.map (·.dst)) (o :: rest) st k) {ob : Nat} {R : Nat → Prop} (hrr : RelR F R0 w0 ob R st a w) :
    (Region.wanted o (yielded l.toArray a.tmps) = true ∧ ∃ st1, RelR F R0 w0 ob R st1 a w ∧ st1.own = st.own ∧ dstOk st1 o.dst ∧ stepO P F st1 o.dst o.op fun st' => WO P F (l.toArray.toList.map (·.dst)) rest st' k) ∨
    (Region.wanted o (yielded l.toArray a.tmps) = false ∧ ∃ st1, RelR F R0 w0 ob R st1 a w ∧ st1.own = st.own ∧ dstOk st1 o.dst ∧ WO P F (l.toArray.toList.map (·.dst)) rest (st1.put o.dst (.v undef)) k) := by
  unfold WO at h
  split at h
  · rename_i hg
    exact .inl ⟨by simp [Region.wanted, hg], st, hrr, rfl, h.1, h.2⟩
  · rename_i j want hg
    split at h
    · exact h.elim
    · rename_i t hj
      split at h
      · rename_i hl
        have hy := yielded_dst (tmps := a.tmps) hj (hrr.env t _ hl).1
        split at h
        · rename_i hw
          subst hw
          exact .inl ⟨by simp [Region.wanted, hg, hy], st, hrr, rfl, h.1, h.2⟩
        · rename_i hw
          have hwf : want = false := by simpa using hw
          subst hwf
          exact .inr ⟨by simp [Region.wanted, hg, hy], st, hrr, rfl, h.1, h.2⟩
      · rename_i hl
        have hy := yielded_dst (tmps := a.tmps) hj (hrr.env t _ hl).1
        split at h
        · rename_i hw
          subst hw
          exact .inl ⟨by simp [Region.wanted, hg, hy], st, hrr, rfl, h.1, h.2⟩
        · rename_i hw
          have hwf : want = true := by simpa using hw
          subst hwf
          exact .inr ⟨by simp [Region.wanted, hg, hy], st, hrr, rfl, h.1, h.2⟩
      · rename_i vs hl
        have hy : yielded l.toArray a.tmps j = none := yielded_none hj (hrr.env t _ hl).1
        exact .inr ⟨by simp [Region.wanted, hg, hy], st, hrr, rfl, h.1, h.2⟩
      · rename_i x hl
        obtain ⟨_, ht, hf⟩ := h
        have hy := yielded_dst (tmps := a.tmps) hj (hrr.env t _ hl).1
        cases x with
        | true =>
          have h := ht rfl
          have hr' := hrr.know (s' := .tt) hl rfl (fun _ => trivial)
          split at h
          · rename_i hw
            subst hw
            exact .inl ⟨by simp [Region.wanted, hg, hy], _, hr', rfl, h.1, h.2⟩
          · rename_i hw
            have hwf : want = false := by simpa using hw
            subst hwf
            exact .inr ⟨by simp [Region.wanted, hg, hy], _, hr', rfl, h.1, h.2⟩
        | false =>
          have h := hf rfl
          have hr' := hrr.know (s' := .ff) hl rfl (fun _ => trivial)
          split at h
          · rename_i hw
            subst hw
            exact .inl ⟨by simp [Region.wanted, hg, hy], _, hr', rfl, h.1, h.2⟩
          · rename_i hw
            have hwf : want = true := by simpa using hw
            subst hwf
            exact .inr ⟨by simp [Region.wanted, hg, hy], _, hr', rfl, h.1, h.2⟩
      · exact h.elim
theorem RelR.rebase {R : Nat → Prop} {st : St} {a : Act} {w : World} {ob : Nat} (h : RelR F R0 w0 ob R st a w) : RelR F R ⟨w, fun b => ∃ (i : Nat) (o : Own), st.own[i]? = some o ∧ o.blk = some b⟩ ob R st a w :=
  ⟨h.defers, h.env, h.size, h.own, h.dist, Evo.refl _ _, h.inv, h.obM, fun i o ho b hb => .inr ⟨i, o, ho, hb⟩, h.obw, fun b hb => ⟨(h.rr b hb).1, (h.rr b hb).2.1, .inl hb⟩, fun _ h => h⟩
theorem RelR.unbase {R : Nat → Prop} {st : St} {a : Act} {w : World} {ob : Nat} (h : RelR F R0 w0 ob R st a w) {st' : St} {a' : Act} {w' : World} (h' : Rel F R ⟨w, fun b => ∃ (i : Nat) (o : Own), st.own[i]? = some o ∧ o.blk = some b⟩ st' a' w') : Rel F R0 w0 st' a' w' := by
  obtain ⟨ob', R', hr⟩ := h'
  have hG : ∀ b, (∃ (i : Nat) (o : Own), st.own[i]? = some o ∧ o.blk = some b) → w0.w.heap.size ≤ b ∨ w0.G b := fun b ⟨i, o, ho, hb⟩ => h.gb i o ho b hb
  have hs := h.evo.size
  refine ⟨ob', R', hr.defers, hr.env, hr.size, hr.own, hr.dist, ?_, hr.inv, hr.obM, fun i o ho b hb => ?_, hr.obw, fun b hb => ?_, fun b hb => hr.r0 b (h.r0 b hb)⟩
  · refine ⟨hr.evo.os.trans h.evo.os, hr.evo.tape.trans h.evo.tape, hr.evo.output.trans h.evo.output, Nat.le_trans h.evo.size hr.evo.size, fun b hb hm => (hr.evo.block b (Nat.lt_of_lt_of_le hb h.evo.size) (fun hx => ?_)).trans (h.evo.block b hb hm)⟩
    rcases hx with hx | hx
    · exact hm (.inl hx)
    · rcases hG b hx with h9 | h9
      · omega
      · exact hm (.inr h9)
  · rcases hr.gb i o ho b hb with h9 | h9
    · have h9' : w.heap.size ≤ b := h9
      exact .inl (by omega)
    · exact hG b h9
  · obtain ⟨g1, g2, g3⟩ := hr.rr b hb
    refine ⟨g1, g2, ?_⟩
    rcases g3 with g3 | g3 | g3
    · exact (h.rr b g3).2.2
    · have g3' : w.heap.size ≤ b := g3
      exact .inr (.inl (by omega))
    · rcases hG b g3 with h9 | h9
      · exact .inr (.inl h9)
      · exact .inr (.inr h9)
def Kept (own0 : List Own) (R : Nat → Prop) (w w' : World) : Prop := (∀ b, R b → w'.heap[b]? = w.heap[b]?) ∧ ∃ (ob : Nat) (R' : Nat → Prop), (∀ b, R b → R' b) ∧ OwnsOk R' ob own0 w'
theorem pre_sound (hpan : ∀ c a w, ¬ Q (.panic c) a w) (hsel : Region.noSelect l.toArray = true) (own0 : List Own) {ob : Nat} {R : Nat → Prop} (bt : BT) (m : Nat) {w : World} (hkept : Kept own0 R w w) (hT : ∀ st' a' w', Rel F R0 w0 st' a' w' → st'.own.take own0.length = own0 → Kept own0 R w w') : ∀ (X : List Nat) (listed : Array Bool) (st : St) (a : Act), PreP md l.toArray bt m W X listed →
    WO P F (l.toArray.toList.map (·.dst)) (X.map fun i => l.getD i default) st (fun st2 => WBT P F (l.toArray.toList.map (·.dst)) l own0 W true bt st2 k) → st.own = own0 → RelR F R0 w0 ob R st a w →
    (∀ st' a' w', k st' → Rel F R0 w0 st' a' w' → Q .normal a' w') → wpAnyT P md l.toArray Q (Kept own0 R w) W (X.length + m) true listed a w
  | [], listed, st, a, hB, h, ho, hr, hk => by
    simp only [List.length_nil, Nat.zero_add]
    exact (wbt_sound hpan hsel own0 hT bt true true m listed st a w hB h ⟨ob, R, hr⟩ hk).1 rfl
  | i :: X, listed, st, a, hB, h, ho, hr, hk => by
    obtain ⟨hready, hfree, hWi, ⟨o, hi, hkind⟩, hB'⟩ := hB
    simp only [List.map_cons, list_get hi] at h
    have next : ∀ {st' : St} {a' : Act}, WO P F (l.toArray.toList.map (·.dst)) (X.map fun i => l.getD i default) st' (fun st2 => WBT P F (l.toArray.toList.map (·.dst)) l own0 W true bt st2 k) → st'.own = own0 → RelR F R0 w0 ob R st' a' w → wpAnyT P md l.toArray Q (Kept own0 R w) W (X.length + m) true (listed.setIfInBounds i true) a' w := fun h' ho' hr' =>
      pre_sound hpan hsel own0 bt m hkept hT X _ _ _ hB' h' ho' hr' hk
    have hput : ∀ (st1 : St) (s : SV), (st1.put o.dst s).own = st1.own := fun st1 s => by cases o.dst <;> rfl
    have fixed : ∀ (C : World → Prop), (wless o.op = true ∨ loadOp o.op = true ∧ ∀ w', C w' → Kept own0 R w w') → ∃ v, Fixed P l.toArray C o v a ∧ wpAnyT P md l.toArray Q (Kept own0 R w) W (X.length + m) true (listed.setIfInBounds i true) (a.put o.dst v) w := by
      intro C hop
      rcases wo_casesR h hr with ⟨hw, st1, hr1, ho1, hd, hs⟩ | ⟨hw, st1, hr1, ho1, hd, hs⟩
      · obtain ⟨s, hs, hv⟩ := stepO_plain (hop.imp id (·.1)) hs
        obtain ⟨hok, hy, hall⟩ := hv R _ a w hr1.env hr1.own
        refine ⟨s.den, .inl ⟨hw, fun w' hw' => ?_⟩, next hs ((hput st1 s).trans (ho1.trans ho)) (hr1.put (dstOk_of hd) hok)⟩
        rcases hop with hop | ⟨_, hop⟩
        · exact hall hop w' o rfl
        · obtain ⟨g1, ob', R', g2, g3⟩ := hop w' hw'
          have he' : EnvOk R' st1.env a w' := fun t s ht => ⟨(hr1.env t s ht).1, SV.ok_mono g2 g1 s (hr1.env t s ht).2⟩
          have ho' : OwnsOk R' ob' st1.own w' := by rw [ho1, ho]; exact g3
          exact (hv R' ob' a w' he' ho').2.1 o rfl
      · exact ⟨undef, .inr ⟨hw, rfl⟩, next hs ((hput st1 _).trans (ho1.trans ho)) (hr1.put (s := .v undef) (dstOk_of hd) trivial)⟩
    have hap : ∀ j oj, l.toArray[j]? = some oj → j ≠ i → listed.getD j true = false → (∀ e ∈ oj.after, Region.binds md e = true → e.on ≠ i) → o.apart l.toArray oj = true := fun j oj hj hne hun hno => Region.free_spec hi hfree j oj hj hne hun hno
    have fin : wpAnyT P md l.toArray Q (Kept own0 R w) W ((X.length + m) + 1) true listed a w := by
      rcases hkind with hwl | ⟨hlo, Bl, hb1, hb2, hb3⟩
      · obtain ⟨v, hf, hn⟩ := fixed (fun _ => True) (.inl hwl)
        exact wpAnyT_wless hpan hi (Region.noSelect_spec hsel) (X.length + m) true listed a w (fun _ => ⟨hWi, hkept⟩) hap hready hf hn
      · obtain ⟨v, hf, hn⟩ := fixed (Kept own0 R w) (.inr ⟨hlo, fun _ h => h⟩)
        exact wpAnyT_first Bl hpan hi (Region.noSelect_spec hsel) hWi hb1 (X.length + m) listed a w hkept hb2 (fun j oj hj hne hun hno => ⟨hap j oj hj hne hun hno, fun hnb => by
          rcases hb3 j (Array.getElem?_eq_some_iff.1 hj).1 with h9 | h9 | h9 | h9
          · exact absurd h9 hne
          · rw [hun] at h9; cases h9
          · exact absurd (hnb.symm.trans h9) Bool.false_ne_true
          · exact h9⟩) hready hf hn
    rwa [List.length_cons, Nat.add_right_comm]
theorem keep_sound (hpan : ∀ c a w, ¬ Q (.panic c) a w) (hsel : Region.noSelect l.toArray = true) (X ws : List Nat) (bt : BT) (m : Nat) (listed : Array Bool) (st : St) (a : Act) (w : World) (hB : PreP md l.toArray bt m (keepW X ws) X listed)
    (h : WO P F (l.toArray.toList.map (·.dst)) (X.map fun i => l.getD i default) st (fun st2 => WBT P F (l.toArray.toList.map (·.dst)) l st.own (keepW X ws) true bt st2 k)) (hr : Rel F R0 w0 st a w) (hk : ∀ st' a' w', k st' → Rel F R0 w0 st' a' w' → Q .normal a' w') :
    wpAny P md l.toArray Q (X.length + m) listed a w := by
  obtain ⟨ob, R, hr⟩ := hr
  refine wpAny_of_T _ _ _ _ _ (pre_sound (W := keepW X ws) hpan hsel st.own bt m ⟨fun _ _ => rfl, ob, R, fun _ h => h, hr.own⟩ ?_ X listed st a hB h rfl hr.rebase (fun st' a' w' hk' hr' => hk st' a' w' hk' (hr.unbase hr')))
  rintro st' a' w' ⟨ob', R', hr'⟩ ht
  have hlt : ∀ b, R b → b < w.heap.size ∧ ¬ (F.M b ∨ ∃ (i : Nat) (o : Own), st.own[i]? = some o ∧ o.blk = some b) := fun b hb => ⟨(hr.rr b hb).1, fun hx => by
    rcases hx with hx | ⟨i, o, ho, hx⟩
    · exact (hr.rr b hb).2.1 hx
    · exact (Own.blk_lt (hr.own i o ho) hx).2.2 hb⟩
  refine ⟨fun b hb => hr'.evo.block b (hlt b hb).1 (hlt b hb).2, ob', R', fun b hb => hr'.r0 b hb, fun i o ho => hr'.own i o ?_⟩
  rw [← ht] at ho
  rw [List.getElem?_take] at ho
  split at ho
  · exact ho
  · cases ho
end
/-! ### A tree of orders -/
inductive OT where
  | done
  | keep (ls ws : List Nat) (bt : BT)
  | one (i : Nat) (t : OT)
  | alt (i : Nat) (t : OT) (rest : OT)
  | none
def OT.heads : OT → List Nat
  | .alt i _ r => i :: r.heads
  | _ => []
def treeGo (md : Region.Mode) (ops : Array Oper) : OT → Bool → Nat → Array Bool → Bool
  | .done, _, m, listed => m == 0 && (Region.ready md ops listed).isEmpty
  | .keep ls ws bt, _, m, listed => decide (ls.length ≤ m) && keepGo md ops bt (m - ls.length) (keepW ls ws) ls listed
  | .one k t, _, m + 1, listed => (Region.ready md ops listed).contains k && (match ops[k]? with
      | some o => if wless o.op = true then Region.free md ops listed k else if (loadOp o.op && (Region.free md ops listed k && loadsOnly md ops listed k)) = true then true else Region.ready md ops listed == [k]
      | none => false) && treeGo md ops t true m (listed.setIfInBounds k true)
  | .alt i t r, top, m + 1, listed => (!top || (Region.ready md ops listed).all fun j => (i :: r.heads).contains j) && !(Region.ready md ops listed).isEmpty && (ops[i]?).isSome && treeGo md ops t true m (listed.setIfInBounds i true) && treeGo md ops r false (m + 1) listed
  | .none, top, _, _ => !top
  | _, _, _, _ => false
def treeB (ops : Array Oper) (t : OT) : Bool := Region.noSelect ops && treeGo .any ops t true ops.size (Array.replicate ops.size false)
section
variable {P : Program} {F : Frm}
def WOT (P : Program) (F : Frm) (ds : List (Option Tmp)) (l : List Oper) : OT → St → (St → Prop) → Prop
  | .done, st, k => k st
  | .keep ls ws bt, st, k => WO P F ds (ls.map fun i => l.getD i default) st (fun st2 => WBT P F ds l st.own (keepW ls ws) true bt st2 k)
  | .one i t, st, k => WO P F ds [l.getD i default] st (fun st' => WOT P F ds l t st' k)
  | .alt i t r, st, k => WO P F ds [l.getD i default] st (fun st' => WOT P F ds l t st' k) ∧ WOT P F ds l r st k
  | .none, _, _ => True
variable {l : List Oper} {md : Region.Mode} {Q : Exit → Act → World → Prop} {k : St → Prop} {R0 : Nat → Prop} {w0 : Org}
theorem tree_sound (hpan : ∀ c a w, ¬ Q (.panic c) a w) (hsel : Region.noSelect l.toArray = true) : ∀ (t : OT) (top : Bool) (m : Nat) (listed : Array Bool) (st : St) (a : Act) (w : World), treeGo md l.toArray t top m listed = true →
    WOT P F (l.toArray.toList.map (·.dst)) l t st k → Rel F R0 w0 st a w → (∀ st' a' w', k st' → Rel F R0 w0 st' a' w' → Q .normal a' w') →
    (top = true → wpAny P md l.toArray Q m listed a w) ∧ (∀ j ∈ t.heads, ∃ m', m = m' + 1 ∧ wpOp P l.toArray Q j (fun a' w' => wpAny P md l.toArray Q m' (listed.setIfInBounds j true) a' w') a w)
  | .done, top, m, listed, st, a, w, hB, h, hr, hk => by
    refine ⟨fun _ => ?_, fun j hj => by cases hj⟩
    simp only [treeGo, Bool.and_eq_true, beq_iff_eq] at hB
    obtain ⟨rfl, hB⟩ := hB
    exact ⟨by simpa using hB, hk _ _ _ h hr⟩
  | .keep ls ws bt, top, m, listed, st, a, w, hB, h, hr, hk => by
    refine ⟨fun _ => ?_, fun j hj => by cases hj⟩
    simp only [treeGo, Bool.and_eq_true, decide_eq_true_eq] at hB
    have := keep_sound hpan hsel ls ws bt (m - ls.length) listed st a w (preP_of _ _ hB.2) h hr hk
    rwa [show ls.length + (m - ls.length) = m by omega] at this
  | .none, top, m, listed, st, a, w, hB, h, hr, hk => by
    refine ⟨fun ht => ?_, fun j hj => by cases hj⟩
    subst ht
    simp [treeGo] at hB
  | .one i t, top, 0, listed, st, a, w, hB, h, hr, hk => by simp [treeGo] at hB
  | .alt i t r, top, 0, listed, st, a, w, hB, h, hr, hk => by simp [treeGo] at hB
  | .one i t, top, m + 1, listed, st, a, w, hB, h, hr, hk => by
    refine ⟨fun _ => ?_, fun j hj => by cases hj⟩
    simp only [treeGo, Bool.and_eq_true] at hB
    obtain ⟨⟨hready, hkind⟩, hB'⟩ := hB
    cases hi : l.toArray[i]? with
    | none => rw [hi] at hkind; cases hkind
    | some o =>
    rw [hi] at hkind
    have hready' : i ∈ Region.ready md l.toArray listed := by simpa using hready
    simp only [WOT, list_get hi] at h
    have hc := wo_cases h hr
    have next : ∀ {st' : St} {a' : Act} {w' : World}, WOT P F (l.toArray.toList.map (·.dst)) l t st' k → Rel F R0 w0 st' a' w' → wpAny P md l.toArray Q m (listed.setIfInBounds i true) a' w' := fun h' hr' =>
      (tree_sound hpan hsel t true m _ _ _ _ hB' h' hr' hk).1 rfl
    have fixed : ∀ (C : World → Prop), C w → (wless o.op = true ∨ loadOp o.op = true ∧ ∀ w', C w' → w' = w) → ∃ v, Fixed P l.toArray C o v a ∧ wpAny P md l.toArray Q m (listed.setIfInBounds i true) (a.put o.dst v) w := by
      intro C hCw hop
      rcases hc with ⟨hw, st1, ⟨ob, R, hr1⟩, hd, hs⟩ | ⟨hw, st1, ⟨ob, R, hr1⟩, hd, hs⟩
      · obtain ⟨s, hs, hv⟩ := stepO_plain (hop.imp id (·.1)) hs
        obtain ⟨hok, hy, hall⟩ := hv R _ a w hr1.env hr1.own
        refine ⟨s.den, .inl ⟨hw, fun w' hw' => ?_⟩, next hs ⟨ob, R, hr1.put (dstOk_of hd) hok⟩⟩
        rcases hop with hop | ⟨_, hop⟩
        · exact hall hop w' o rfl
        · rw [hop w' hw']; exact hy o rfl
      · exact ⟨undef, .inr ⟨hw, rfl⟩, next hs ⟨ob, R, hr1.put (s := .v undef) (dstOk_of hd) trivial⟩⟩
    simp only at hkind
    split at hkind
    · rename_i hwl
      obtain ⟨v, hf, hn⟩ := fixed (fun _ => True) trivial (.inl hwl)
      exact wpAny_first hpan hi (Region.noSelect_spec hsel) m listed a w trivial (fun j oj hj hne hun hno => ⟨Region.free_spec hi hkind j oj hj hne hun hno, fun _ _ a K h => Oper.wp_mono (fun _ _ h => ⟨trivial, h⟩) h⟩) hready' hf hn
    · split at hkind
      · rename_i hlo
        obtain ⟨hlo, hkind⟩ := hlo
        obtain ⟨v, hf, hn⟩ := fixed (fun w' => w' = w) rfl (.inr ⟨hlo, fun _ h => h⟩)
        refine wpAny_first (C := fun w' => w' = w) hpan hi (Region.noSelect_spec hsel) m listed a w rfl (fun j oj hj hne hun hno => ⟨Region.free_spec hi hkind.1 j oj hj hne hun hno, fun w' hw' a K h => ?_⟩) hready' hf hn
        obtain rfl : w' = w := hw'
        have h1 := List.all_eq_true.1 hkind.2 j (List.mem_range.2 (Array.getElem?_eq_some_iff.1 hj).1)
        simp only [hj, Bool.or_eq_true, beq_iff_eq, hne, false_or, hun, Bool.false_eq_true] at h1
        rcases h1 with h1 | h1
        · obtain ⟨e, he, hb⟩ := Array.any_eq_true'.1 h1
          simp only [Bool.and_eq_true, beq_iff_eq] at hb
          exact absurd hb.2 (hno e he hb.1)
        · exact still_keeps h1 h
      · have hone : Region.ready md l.toArray listed = [i] := by simpa using hkind
        refine ⟨fun h0 => (by rw [hone] at h0; cases h0), fun j hj => ?_⟩
        rw [hone] at hj
        obtain rfl : j = i := by simpa using hj
        exact tree_one hpan hi h hr fun st' a' w' h' hr' => next h' hr'
  | .alt i t r, top, m + 1, listed, st, a, w, hB, h, hr, hk => by
    simp only [treeGo, Bool.and_eq_true] at hB
    obtain ⟨⟨⟨⟨hcov, hne⟩, his⟩, hB1⟩, hB2⟩ := hB
    obtain ⟨h1, h2⟩ := h
    obtain ⟨o, hi⟩ := Option.isSome_iff_exists.1 his
    rw [list_get hi] at h1
    have heads : ∀ j ∈ (OT.alt i t r).heads, ∃ m', m + 1 = m' + 1 ∧ wpOp P l.toArray Q j (fun a' w' => wpAny P md l.toArray Q m' (listed.setIfInBounds j true) a' w') a w := by
      intro j hj
      rcases List.mem_cons.1 hj with rfl | hj
      · exact ⟨m, rfl, tree_one hpan hi h1 hr fun st' a' w' h' hr' => (tree_sound hpan hsel t true m _ _ _ _ hB1 h' hr' hk).1 rfl⟩
      · exact (tree_sound hpan hsel r false (m + 1) listed st a w hB2 h2 hr hk).2 j hj
    refine ⟨fun ht => ?_, heads⟩
    subst ht
    refine ⟨fun h0 => (by rw [h0] at hne; simp at hne), fun j hj => ?_⟩
    have hj' : j ∈ (OT.alt i t r).heads := by
      have hcov' : ∀ x ∈ Region.ready md l.toArray listed, x = i ∨ x ∈ r.heads := by simpa using hcov
      simpa [OT.heads] using hcov' j hj
    obtain ⟨m', hm, hw⟩ := heads j hj'
    obtain rfl : m' = m := by omega
    exact hw
theorem Sat.region_tree {K : Exit → St → Prop} {st : St} {id : Nat} {l : List Oper} (t : OT) (hm : P.follows .mixedOrders = true) (hB : treeB l.toArray t = true) (hpan : ∀ c st, ¬ K (.panic c) st)
    (h : ∀ k : St → Prop, (∀ st', K .normal st' → k st') → WOT P F (l.map (·.dst)) l t st k) : Sat P F (.region id l.toArray true) st K := by
  rintro R0 w0 a w ⟨ob, R, hr⟩
  simp only [treeB, Bool.and_eq_true] at hB
  have hdrew : Grown w { w with drawn := w.drawn + 1 } := ⟨rfl, rfl, rfl, Nat.le_refl _, fun _ _ _ => rfl⟩
  refine wp_region_any hm ?_
  have := (tree_sound (P := P) (F := F) (l := l) (Q := fun e a' w' => ∃ st', K e st' ∧ Rel F R0 w0 st' a' w') (k := K .normal) (fun c a w ⟨st', hk, _⟩ => hpan c st' hk) hB.1 t true _ _ st a { w with drawn := w.drawn + 1 } hB.2 (by simpa using h _ fun _ h => h)
    ⟨ob, R, hr.grown hdrew⟩ (fun st' a' w' hk hr' => ⟨st', hk, hr'⟩)).1 rfl
  simpa using this
/-! ### Meeting up to the numbers of the call's own objects -/
def idSim : SV → SV → Prop
  | .os _ a len cap, .os _ a' len' cap' => a = a' ∧ len = len' ∧ cap = cap'
  | .op _ b o, .op _ b' o' => b = b' ∧ o = o'
  | _, _ => False
theorem idSim_ok {s s' : SV} (h : idSim s s') : s.den = s'.den ∧ ∀ R w, s'.ok R w := by
  unfold idSim at h
  split at h
  · obtain ⟨rfl, rfl, rfl⟩ := h; exact ⟨rfl, fun _ _ => trivial⟩
  · obtain ⟨rfl, rfl⟩ := h; exact ⟨rfl, fun _ _ => trivial⟩
  · exact h.elim
def envSim (env : List (Nat × SV)) : List (Nat × SV) → Prop
  | [] => True
  | (t, s) :: l => (look env t = some s ∨ ∃ s', look env t = some s' ∧ idSim s' s) ∧ envSim env l
def LeR (σ : List Nat) (st st' : St) : Prop := st'.n = st.n ∧ envSim st.env st'.env ∧ σ.Nodup ∧ ownLe (σ.map fun i => st.own.getD i .gone) st'.own
theorem envSim_ok {R : Nat → Prop} {a : Act} {w : World} {env : List (Nat × SV)} (he : EnvOk R env a w) : ∀ {l : List (Nat × SV)}, envSim env l → EnvOk R l a w
  | [], _, t, s, h => by cases h
  | (u, x) :: l, ⟨h1, h2⟩, t, s, h => by
    simp only [look] at h
    split at h
    · rename_i e
      subst e
      simp only [Option.some.injEq] at h
      subst h
      rcases h1 with h1 | ⟨y, hl, hy⟩
      · exact he _ _ h1
      · have := he _ _ hl
        obtain ⟨g1, g2⟩ := idSim_ok hy
        exact ⟨by rw [this.1, g1], g2 R w⟩
    · exact envSim_ok he h2 t s h
theorem Rel.leR {R0 : Nat → Prop} {w0 : Org} {st : St} {w : World} {a : Act} {st' : St} {σ : List Nat} (h : Rel F R0 w0 st a w) (hl : LeR σ st st') : Rel F R0 w0 st' a w := by
  obtain ⟨ob, R, hr⟩ := h
  obtain ⟨hn, he, hnd, ho⟩ := hl
  have get : ∀ (i : Nat) (p : Own), st'.own[i]? = some p → p = .gone ∨ ∃ (q : Nat) (o : Own), σ[i]? = some q ∧ st.own[q]? = some o ∧ o.le p := by
    intro i p hp
    obtain ⟨o, h1, h2⟩ := ownLe_get ho i p hp
    rw [List.getElem?_map] at h1
    cases hs : σ[i]? with
    | none => rw [hs] at h1; cases h1
    | some q =>
      rw [hs] at h1
      simp only [Option.map_some, Option.some.injEq, List.getD] at h1
      cases hq : st.own[q]? with
      | none =>
        rw [hq] at h1
        simp only [Option.getD_none] at h1
        subst h1
        left
        cases p <;> simp [Own.le] at h2 ⊢
      | some o' =>
        rw [hq] at h1
        simp only [Option.getD_some] at h1
        subst h1
        exact .inr ⟨q, o', rfl, hq, h2⟩
  refine ⟨ob, R, hr.defers, envSim_ok hr.env he, by rw [hn]; exact hr.size, ?_, ?_, hr.evo, hr.inv, hr.obM, ?_, hr.obw, hr.rr, hr.r0⟩
  · intro i p hp
    rcases get i p hp with rfl | ⟨q, o, _, h1, h2⟩
    · trivial
    · exact (Own.ok_le (hr.own q o h1) h2).1
  · intro i j o1 o2 hij h1 h2 b hb1 hb2
    rcases get i o1 h1 with rfl | ⟨q1, p1, s1, g1, l1⟩
    · cases hb1
    rcases get j o2 h2 with rfl | ⟨q2, p2, s2, g2, l2⟩
    · cases hb2
    have hne : q1 ≠ q2 := fun e => by
      subst e
      have hi := (List.getElem?_eq_some_iff.1 s1)
      have hj := (List.getElem?_eq_some_iff.1 s2)
      obtain ⟨hi1, hi2⟩ := hi
      obtain ⟨hj1, hj2⟩ := hj
      exact hij ((List.getElem_inj hnd).1 (hi2.trans hj2.symm))
    exact hr.dist q1 q2 p1 p2 hne g1 g2 b ((Own.ok_le (hr.own q1 p1 g1) l1).2 b hb1) ((Own.ok_le (hr.own q2 p2 g2) l2).2 b hb2)
  · intro i p hp b hb
    rcases get i p hp with rfl | ⟨q, o, _, h1, h2⟩
    · cases hb
    · exact hr.gb q o h1 b ((Own.ok_le (hr.own q o h1) h2).2 b hb)
theorem Sat.weakR {c : Code} {st : St} {K : Exit → St → Prop} (h : Sat P F c st fun e st' => ∃ st2, K e st2 ∧ ∃ σ, LeR σ st' st2) : Sat P F c st K := by
  intro R0 w0 a w hr
  refine wp_mono (h R0 w0 a w hr) ?_
  rintro e a' w' ⟨st', ⟨st2, hk, σ, hl⟩, hr'⟩
  exact ⟨st2, hk, hr'.leR hl⟩
theorem Sat.region_treeR {ι : Type} {K : Exit → St → Prop} {st : St} {id : Nat} {l : List Oper} (t : OT) (hm : P.follows .mixedOrders = true) (hB : treeB l.toArray t = true) (hpan : ∀ c st, ¬ K (.panic c) st) (sh : ι → St)
    (h : ∀ k : St → Prop, (∀ st' x σ, LeR σ st' (sh x) → k st') → WOT P F (l.map (·.dst)) l t st k) (hk : ∀ x, K .normal (sh x)) : Sat P F (.region id l.toArray true) st K :=
  Sat.weakR (Sat.region_tree t hm hB (fun c st' ⟨st3, h3, _⟩ => hpan c st3 h3) fun k h' => h k fun st' x σ hl => h' st' ⟨sh x, hk x, σ, hl⟩)
end
end Eng
end Go.Proofs.YtepkbbmjbbnhnaaGreatDoor

/- The evaluator, part P: functions that give back a new row of their own. -/
set_option linter.unusedSimpArgs false
set_option linter.unusedVariables false
namespace Go.Proofs.YtepkbbmjbbnhnaaGreatDoor
namespace Eng
structure ContractN (F : Frm) (P : Program) (f : FuncId) (args : List SV) (post : Own → Prop) : Prop where
  enters : ∀ vs w, (callFunc f vs).run P w = .ok (.enter f vs) w
  calls : ∀ (R : Nat → Prop) (w : World), F.Inv w → (∀ s ∈ args, s.ok R w) → (∀ b, R b → b < w.heap.size ∧ ¬ F.M b) →
    Calls P f (args.map SV.den).toArray w fun e w' => ∃ (a : Option Addr) (ty len cap sz : Nat) (rd : Nat → Nat → SV) (R' : Nat → Prop), e = .returned (.slice a len cap) ∧ post (.row a ty len cap sz rd) ∧ (∀ b, R b → R' b) ∧
      (∀ b, R' b → R b ∨ (w.heap.size ≤ b ∧ b < w'.heap.size)) ∧ (Own.row a ty len cap sz rd).ok R' w.heap.size w' ∧ Evo F.M w w' ∧ F.Inv w'
theorem ContractN.mono {F : Frm} {P : Program} {f : FuncId} {args : List SV} {post post' : Own → Prop} (h : ContractN F P f args post) (hp : ∀ o, post o → post' o) : ContractN F P f args post' :=
  ⟨h.enters, fun R w h1 h2 h3 => (h.calls R w h1 h2 h3).mono fun e w' ⟨a, ty, len, cap, sz, rd, R', e1, e2, e3⟩ => ⟨a, ty, len, cap, sz, rd, R', e1, hp _ e2, e3⟩⟩
def newRow (own : List Own) (post : Own → Prop) : SV → Prop
  | .os id a len cap => (match own[id]? with
    | some (.row a1 ty len1 cap1 sz rd) => (a1 = a ∧ len1 = len ∧ cap1 = cap) ∧ post (.row a1 ty len1 cap1 sz rd)
    | _ => False)
  | _ => False
def retNK (st : St) (post : Own → Prop) : List SV → Prop
  | [s] => newRow st.own post s
  | _ => False
def retN (P : Program) (rs : List ResultVar) (post : Own → Prop) : Exit → St → Prop
  | .normal, st => resHolds P st rs (retNK st post)
  | .ret, st => resHolds P st rs (retNK st post)
  | _, _ => False
theorem contractN_of {P : Program} {F : Frm} {f : FuncId} {fn : Func} {c : Code} {args : List SV} {post : Own → Prop} (hf : P.funcs[f]? = some fn) (hb : fn.body = some c) (hname : (fn.name == "runtime.NumGoroutine") = false)
    (h : Sat P F c ⟨fn.ntmps, argEnv 0 args, []⟩ (retN P fn.results.toList post)) : ContractN F P f args post := by
  refine ⟨fun vs w => ?_, fun R w hinv hargs hR => ?_⟩
  · have hn : ¬ fn.name = "runtime.NumGoroutine" := by simpa using hname
    simp [callFunc, hf, hn, hb]
  · refine calls_of_wp hf hb ?_
    have hrel : RelR F R ⟨w, fun _ => False⟩ w.heap.size R ⟨fn.ntmps, argEnv 0 args, []⟩ { tmps := (args.map SV.den).toArray ++ Array.replicate (fn.ntmps - (args.map SV.den).toArray.size) undef, defers := [] } w := by
      refine ⟨rfl, ?_, ?_, fun i o ho => by simp at ho, fun i j o o' _ ho => by simp at ho, Evo.refl _ _, hinv, fun b hb => F.lt w b hinv hb, fun i o ho => by simp at ho, Nat.le_refl _, fun b hb => ⟨(hR b hb).1, (hR b hb).2, .inl hb⟩, fun _ h => h⟩
      · intro t s ht
        obtain ⟨j, rfl, hj⟩ := look_argEnv args 0 t s ht
        have hlt := (List.getElem?_eq_some_iff.1 hj).1
        refine ⟨?_, hargs s (List.mem_of_getElem? hj)⟩
        rw [Nat.zero_add, Array.getElem?_append_left (by simpa using hlt)]
        simp [hj]
      · simp; omega
    refine wp_mono (h R ⟨w, fun _ => False⟩ _ w ⟨_, R, hrel⟩) ?_
    have fin : ∀ a' w' st', resHolds P st' fn.results.toList (retNK st' post) → Rel F R ⟨w, fun _ => False⟩ st' a' w' → a'.defers = [] ∧ ∃ v, (results fn a'.tmps).run P w' = .ok v w' ∧
        (fun e w' => ∃ (a : Option Addr) (ty len cap sz : Nat) (rd : Nat → Nat → SV) (R' : Nat → Prop), e = Ending.returned (.slice a len cap) ∧ post (.row a ty len cap sz rd) ∧ (∀ b, R b → R' b) ∧ (∀ b, R' b → R b ∨ (w.heap.size ≤ b ∧ b < w'.heap.size)) ∧ (Own.row a ty len cap sz rd).ok R' w.heap.size w' ∧ Evo F.M w w' ∧ F.Inv w') (.returned v) w' := by
      rintro a' w' st' hres ⟨ob', R', hr'⟩
      obtain ⟨l, hpost, hlok, hrun⟩ := resHolds_ok hr' hres
      have hmA : ∀ (g : ResultVar → Sem Value), (fn.results.toList.mapM g).run P w' = .ok (l.map SV.den) w' → (fn.results.mapM g).run P w' = .ok (l.map SV.den).toArray w' := by
        intro g hg
        rw [Array.mapM_eq_mapM_toList]
        simp only [Sem.run_map, hg, Result.andThen_ok]
      obtain ⟨s, rfl, hp2⟩ : ∃ s, l = [s] ∧ newRow st'.own post s := by
        match l, hpost with
        | [s], h => exact ⟨s, rfl, h⟩
      obtain ⟨id, a, len, cap, rfl⟩ : ∃ id a len cap, s = .os id a len cap := by
        cases s <;> first | exact hp2.elim | exact ⟨_, _, _, _, rfl⟩
      clear hpost
      unfold newRow at hp2
      cases ho : st'.own[id]? with
      | none => simp only [ho] at hp2
      | some o =>
        simp only [ho] at hp2
        cases o with
        | row a1 ty len1 cap1 sz rd =>
          obtain ⟨⟨rfl, rfl, rfl⟩, hpost⟩ := hp2
          refine ⟨hr'.defers, .slice a1 len1 cap1, ?_, a1, ty, len1, cap1, sz, rd, R', rfl, hpost, hr'.r0, fun b hb => ?_, Own.rebase (hr'.own id _ ho) (fun b hb => ?_), ⟨hr'.evo.os, hr'.evo.tape, hr'.evo.output, hr'.evo.size, fun b hb hm => hr'.evo.block b hb (fun h => h.elim hm (fun h => h))⟩, hr'.inv⟩
          · unfold results
            rw [Sem.run_bind]
            show ((fn.results.mapM (resRun a'.tmps)).run P w').andThen _ = _
            rw [hmA _ hrun]
            simp [SV.den]
          · rcases (hr'.rr b hb).2.2 with h | h | h
            · exact .inl h
            · exact .inr ⟨h, (hr'.rr b hb).1⟩
            · exact h.elim
          · rcases hr'.gb id _ ho b hb with h | h
            · exact h
            · exact h.elim
        | _ => exact hp2.elim
    rintro e a' w' ⟨st', hk, hr'⟩
    cases e with
    | normal => exact fin a' w' st' hk hr'
    | ret => exact fin a' w' st' hk hr'
    | _ => exact hk.elim
section
variable {P : Program} {F : Frm} {st : St} {k : St → Prop} {dst : Option Tmp} {ds : List (Option Tmp)} {rest : List Oper}
variable {R0 R : Nat → Prop} {w0 : Org} {w : World} {ob : Nat} {a : Act}
theorem RelR.calledN (h : RelR F R0 w0 ob R st a w) {w' : World} {R' : Nat → Prop} {o1 : Own} (he : Evo F.M w w') (hi : F.Inv w') (hRR : ∀ b, R b → R' b) (hR' : ∀ b, R' b → R b ∨ (w.heap.size ≤ b ∧ b < w'.heap.size)) (ho1 : o1.ok R' w.heap.size w') :
    RelR F R0 w0 ob R' { st with own := st.own ++ [o1] } a w' := by
  have hRb : ∀ b, R b → w'.heap[b]? = w.heap[b]? := fun b hr => he.block b (h.rr b hr).1 (h.rr b hr).2.1
  have hown : ∀ (i : Nat) (o : Own), st.own[i]? = some o → ∀ b, o.blk = some b → w'.heap[b]? = w.heap[b]? := fun i o ho b hb => by
    obtain ⟨h1, h2, _⟩ := Own.blk_lt (h.own i o ho) hb
    exact he.block b h2 (fun hm => by have := h.ltM hm; omega)
  have hobw := h.obw
  have hsz := h.evo.size
  refine ⟨h.defers, fun t s ht => ⟨(h.env t s ht).1, SV.ok_mono hRR hRb s (h.env t s ht).2⟩, h.size, ?_, ?_, h.evo.trans ⟨he.os, he.tape, he.output, he.size, fun b hb hm => he.block b hb (fun h => hm (.inl h))⟩, hi, h.obM, ?_, Nat.le_trans h.obw he.size, ?_, fun b hb => hRR b (h.r0 b hb)⟩
  · intro i o ho
    rcases get_append_one ho with ho | ⟨_, rfl⟩
    · refine Own.ok_keep (h.own i o ho) hRR (fun b hb hr => ?_) hRb (hown i o ho)
      rcases hR' b hr with hr | ⟨hr, _⟩
      · exact hr
      · have := (Own.blk_lt (h.own i o ho) hb).2.1
        omega
    · exact Own.rebase ho1 (fun b hb => by have := (Own.blk_lt ho1 hb).1; omega)
  · intro i j o o' hij ho ho' b hb hb'
    rcases get_append_one ho with p1 | ⟨hi', rfl⟩ <;> rcases get_append_one ho' with p2 | ⟨hj', rfl⟩
    · exact h.dist i j o o' hij p1 p2 b hb hb'
    · have g1 := (Own.blk_lt (h.own i o p1) hb).2.1
      have g2 := (Own.blk_lt ho1 hb').1
      omega
    · have g1 := (Own.blk_lt (h.own j o' p2) hb').2.1
      have g2 := (Own.blk_lt ho1 hb).1
      omega
    · omega
  · intro i o ho b hb
    rcases get_append_one ho with ho | ⟨_, rfl⟩
    · exact h.gb i o ho b hb
    · have := (Own.blk_lt ho1 hb).1
      exact .inl (by omega)
  · intro b hb
    rcases hR' b hb with hb | ⟨hb1, hb2⟩
    · obtain ⟨g1, g2, g3⟩ := h.rr b hb
      exact ⟨Nat.lt_of_lt_of_le g1 he.size, g2, g3⟩
    · exact ⟨hb2, fun hm => by have := h.ltM hm; omega, .inr (.inl (by omega))⟩
theorem roArgS_all {st' : St} {R1 : Nat → Prop} (args : List SV) (hst : st'.own = frz st.own args) (hr1 : RelR F R0 w0 ob R1 { st with own := frz st.own args } a w) (hargs1 : ∀ s ∈ args, s.ok R1 w) : ∀ s ∈ args.map (roArgS (frz st.own args)), s.ok R1 w := by
  intro s' hs'
  obtain ⟨s, hs, rfl⟩ := List.mem_map.1 hs'
  have key : (roSl (Eng.frz st.own args) s).ok R1 w → (roArgS (Eng.frz st.own args) s).ok R1 w := fun h => by cases s <;> first | trivial | exact h
  apply key
  unfold roSl
  cases hany : asAny (Eng.frz st.own args) s with
  | none => exact hargs1 s hs
  | some p =>
    obtain ⟨a', len, cap, sz, rd⟩ := p
    have rd_ok : ∀ {s : SV}, asRead (Eng.frz st.own args) s = some (a', len, cap, sz, rd) → s.ok R1 w → (SV.sl a' len cap sz rd).ok R1 w := fun h1 h2 => (asRead_ok (st := { st with own := Eng.frz st.own args }) h1 hr1.own h2).2
    unfold asAny at hany
    split at hany
    · rename_i id a1 len1 cap1
      split at hany
      · rename_i a2 e2 len2 cap2 sz2 rd2 ho2
        exact absurd rfl ((frz_row args ho2).2 _ hs a1 len1 cap1)
      · exact rd_ok hany (hargs1 _ hs)
    · exact rd_ok hany (hargs1 _ hs)
theorem callK_new {f : FuncId} {args : List SV} {post : Own → Prop} (h : ContractN F P f (args.map (roArgS (frz st.own args))) post)
    (hk : ∀ (a : Option Addr) (ty len cap sz : Nat) (rd : Nat → Nat → SV), post (.row a ty len cap sz rd) → k (St.put { st with own := frz st.own args ++ [.row a ty len cap sz rd] } dst (.os (frz st.own args).length a len cap))) : CallK P F f args st dst k := by
  intro R0 w0 ob R a w hr hargs
  refine ⟨h.enters, ?_⟩
  obtain ⟨R1, hm1, hr1⟩ := hr.frz args
  have hargs1 : ∀ s ∈ args, s.ok R1 w := fun s hs => SV.ok_mono hm1 (fun _ _ => rfl) s (hargs s hs)
  have hden : (args.map (roArgS (Eng.frz st.own args))).map SV.den = args.map SV.den := by
    rw [List.map_map]
    exact List.map_congr_left fun s hs => (roArgS_ok hr1 (hargs1 s hs)).1
  have hok := roArgS_all (st' := { st with own := frz st.own args }) args rfl hr1 hargs1
  have hc := h.calls R1 w hr1.inv hok (fun b hb => ⟨(hr1.rr b hb).1, (hr1.rr b hb).2.1⟩)
  rw [hden] at hc
  refine hc.mono ?_
  rintro e w' ⟨ad, ty, len, cap, sz, rd, R', rfl, hpost, hRR, hR', ho1, hevo, hinv⟩
  exact ⟨.os (frz st.own args).length ad len cap, _, R', rfl, hk ad ty len cap sz rd hpost, trivial, hr1.calledN hevo hinv hRR hR' ho1, rfl⟩
theorem wcall_new {f : FuncId} {args args' : List SV} {post : Own → Prop} {st : St} {own' : List Own} (h : ContractN F P f args' post) (ho : frz st.own args = own') (ha : args.map (roArgS own') = args')
    (hk : ∀ (a : Option Addr) (ty len cap sz : Nat) (rd : Nat → Nat → SV), post (.row a ty len cap sz rd) → WO P F ds rest (St.put { st with own := own' ++ [.row a ty len cap sz rd] } dst (.os own'.length a len cap)) k) : WCall P F ds rest dst st f (some args) k := by
  subst ho
  unfold WCall
  exact .inl <| callK_new (k := fun st' => WO P F ds rest st' k) (by rw [ha]; exact h) hk
end
end Eng
end Go.Proofs.YtepkbbmjbbnhnaaGreatDoor
