/- The evaluator, part J: calls; regions of operations. -/
import Derived.Lib.ConvBytes
import Derived.Test.YtpkmnggfomllhaaDoorEngCpy
set_option linter.unusedSimpArgs false
set_option linter.unusedVariables false
namespace Go.Proofs.YtpkmnggfomllhaaDoor
namespace Eng
structure Contract (F : Frm) (P : Program) (f : FuncId) (args : List SV) (post : SV → Prop) : Prop where
  enters : ∀ vs w, (callFunc f vs).run P w = .ok (.enter f vs) w
  calls : ∀ (R : Nat → Prop) (w : World), F.Inv w → (∀ s ∈ args, s.ok R w) → (∀ b, R b → b < w.heap.size ∧ ¬ F.M b) →
    Calls P f (args.map SV.den).toArray w fun e w' => ∃ r, e = .returned r.den ∧ post r ∧ r.ok (fun b => R b ∨ (w.heap.size ≤ b ∧ b < w'.heap.size)) w' ∧ Evo F.M w w' ∧ F.Inv w'
def CallK (P : Program) (F : Frm) (f : FuncId) (args : List SV) (st : St) (dst : Option Tmp) (k : St → Prop) : Prop :=
  ∀ (R0 : Nat → Prop) (w0 : Org) (ob : Nat) (R : Nat → Prop) (a : Act) (w : World), RelR F R0 w0 ob R st a w → (∀ s ∈ args, s.ok R w) →
    (∀ vs w, (callFunc f vs).run P w = .ok (.enter f vs) w) ∧ Calls P f (args.map SV.den).toArray w fun e w' => ∃ (r : SV) (st' : St) (R' : Nat → Prop), e = .returned r.den ∧ k (st'.put dst r) ∧ r.ok R' w' ∧ RelR F R0 w0 ob R' st' a w' ∧ st'.n = st.n
section
variable {P : Program} {F : Frm} {st : St} {k : St → Prop} {dst : Option Tmp}
theorem call_good {f : FuncId} {args : Array Operand} {ts : Array TypeId} {l : List SV} (hd : dstOk st dst) (he : evs st.env args.toList = some l) (h : CallK P F f l st dst k) :
    Good P F (.call { callee := .value (.func f), args := args, argTypes := ts }) dst st k := by
  rintro R0 w0 a w o next Q ho rfl ⟨ob, R, hr⟩ hk
  obtain ⟨h1, h2⟩ := evs_ok hr.env _ _ he
  obtain ⟨hen, hc⟩ := h R0 w0 ob R a w hr h2
  have hargs : args.map a.eval = (l.map SV.den).toArray := by apply Array.ext'; rw [Array.toList_map]; exact h1
  unfold Oper.wp
  have hrun : (execOp a.eval o).run P w = .ok (.enter f (l.map SV.den).toArray) w := by
    unfold execOp
    rw [ho]
    simp only [resolve, Act.eval, Deferred.ofValue, Sem.run_bind, Sem.run_pure, Result.andThen_ok, invoke, hargs]
    simp [hen]
  rw [hrun]
  refine hc.mono ?_
  rintro e w' ⟨r, st', R', rfl, hk', hrok, hrel, hn⟩
  exact hk _ _ _ hk' ⟨ob, R', hrel.put (fun t ht => by rw [hn]; exact dstOk_of hd t ht) hrok⟩
theorem call_fn_good {f : FuncId} {n t : Nat} {rd : Nat → SV} {args : Array Operand} {ts : Array TypeId} {l : List SV} (hd : dstOk st dst) (hf : look st.env t = some (.fn f n rd)) (he : evs st.env args.toList = some l) (h : CallK P F f (l ++ (List.range n).map rd) st dst k) :
    Good P F (.call { callee := .value (.tmp t), args := args, argTypes := ts }) dst st k := by
  rintro R0 w0 a w o next Q ho rfl ⟨ob, R, hr⟩ hk
  obtain ⟨h1, h2⟩ := evs_ok hr.env _ _ he
  have hfn := hr.env t _ hf
  obtain ⟨hen, hc⟩ := h R0 w0 ob R a w hr (fun s hs => by
    rcases List.mem_append.1 hs with hs | hs
    · exact h2 s hs
    · obtain ⟨j, hj, rfl⟩ := List.mem_map.1 hs
      exact hfn.2 j (by simpa using hj))
  have hargs : args.map a.eval = (l.map SV.den).toArray := by apply Array.ext'; rw [Array.toList_map]; exact h1
  have hev : a.eval (.tmp t) = (SV.fn f n rd).den := by simp [Act.eval, hfn.1]
  unfold Oper.wp
  have hrun : (execOp a.eval o).run P w = .ok (.enter f ((l ++ (List.range n).map rd).map SV.den).toArray) w := by
    unfold execOp
    rw [ho]
    simp only [resolve, hev, SV.den, Deferred.ofValue, Sem.run_bind, Sem.run_pure, Result.andThen_ok, invoke, hargs]
    simp [hen, Function.comp_def]
  rw [hrun]
  refine hc.mono ?_
  rintro e w' ⟨r, st', R', rfl, hk', hrok, hrel, hn⟩
  exact hk _ _ _ hk' ⟨ob, R', hrel.put (fun t ht => by rw [hn]; exact dstOk_of hd t ht) hrok⟩
variable {R0 R : Nat → Prop} {w0 : Org} {w : World} {ob : Nat} {a : Act}
theorem RelR.called (h : RelR F R0 w0 ob R st a w) {w' : World} (he : Evo F.M w w') (hi : F.Inv w') : RelR F R0 w0 ob (fun b => R b ∨ (w.heap.size ≤ b ∧ b < w'.heap.size)) st a w' := by
  have hRb : ∀ b, R b → w'.heap[b]? = w.heap[b]? := fun b hr => he.block b (h.rr b hr).1 (h.rr b hr).2.1
  have hown : ∀ (i : Nat) (o : Own), st.own[i]? = some o → ∀ b, o.blk = some b → w'.heap[b]? = w.heap[b]? := fun i o ho b hb => by
    obtain ⟨h1, h2, _⟩ := Own.blk_lt (h.own i o ho) hb
    exact he.block b h2 (fun hm => by have := h.ltM hm; omega)
  refine ⟨h.defers, fun t s ht => ⟨(h.env t s ht).1, SV.ok_mono (fun _ h => .inl h) hRb s (h.env t s ht).2⟩, h.size, ?_, h.dist, h.evo.trans ⟨he.os, he.tape, he.output, he.size, fun b hb hm => he.block b hb (fun h => hm (.inl h))⟩, hi, h.obM, h.gb, Nat.le_trans h.obw he.size, ?_, fun b hb => .inl (h.r0 b hb)⟩
  · intro i o ho
    refine Own.ok_keep (h.own i o ho) (fun _ h => .inl h) (fun b hb hr => ?_) hRb (hown i o ho)
    rcases hr with hr | ⟨hr, _⟩
    · exact hr
    · have := (Own.blk_lt (h.own i o ho) hb).2.1
      omega
  · intro b hb
    rcases hb with hb | ⟨hb1, hb2⟩
    · obtain ⟨g1, g2, g3⟩ := h.rr b hb
      exact ⟨Nat.lt_of_lt_of_le g1 he.size, g2, g3⟩
    · have := h.obw
      have := h.evo.size
      exact ⟨hb2, fun hm => by have := h.ltM hm; omega, .inr (.inl (by omega))⟩
def roSl (own : List Own) (s : SV) : SV := match asAny own s with | some (a, len, cap, sz, rd) => .sl a len cap sz rd | none => s
def roArgS (own : List Own) (s : SV) : SV := match s with | .tt => .b true | .ff => .b false | s => roSl own s
def roPtr (own : List Own) (s : SV) : SV := match s with
  | .op id blk off => (match own[id]? with
    | some (.box blk' _ cs) => if blk' = blk ∧ off ≤ cs.length then .el ⟨blk, off, none⟩ (cs.length - off) (fun j => cs.getD (off + j) default) else s
    | _ => s)
  | s => roArgS own s
def roArg (own : List Own) (s : SV) : SV := match s with | .fn f n rd => .fn f n fun j => roPtr own (rd j) | s => roPtr own s
def withOwn (st : St) (R : Nat → Prop) : Nat → Prop := fun b => R b ∨ ∃ (i : Nat) (o : Own), st.own[i]? = some o ∧ o.blk = some b
theorem row_sl {R R' : Nat → Prop} {B : Nat} {w : World} {a : Option Addr} {e len cap sz : Nat} {rd : Nat → Nat → SV} (h : (Own.row a e len cap sz rd).ok R B w) (hR : ∀ b, R b → R' b) (hR' : ∀ b, (Own.row a e len cap sz rd).blk = some b → R' b) : (SV.sl a len cap sz rd).ok R' w := by
  have hrow := h
  obtain ⟨h1, h2, h3⟩ := h
  rcases h1.2 with ⟨hv, h0⟩ | ⟨g, cap', cur, hv, hbg, hg, hn, hcm, _⟩
  · simp only [Value.slice.injEq] at hv
    obtain ⟨rfl, _, rfl⟩ := hv
    exact ⟨by omega, by simp [maxLen], .inl h0⟩
  · simp only [Value.slice.injEq] at hv
    obtain ⟨rfl, _, rfl⟩ := hv
    refine ⟨hn, hcm, .inr ⟨g, 0, rfl, hR' g rfl, fun i j hi hj => ?_⟩⟩
    obtain ⟨g', hg', hc⟩ := row_cell hrow hi hj
    simp only [Option.some.injEq, Addr.mk.injEq] at hg'
    obtain ⟨rfl, _⟩ := hg'
    rw [Nat.zero_add]
    exact ⟨hc, (h3 i j hi hj).1, SV.ok_mono hR (fun _ _ => rfl) _ (h3 i j hi hj).2⟩
theorem roSl_ok (h : RelR F R0 w0 ob R st a w) {s : SV} (hs : s.ok R w) : (roSl st.own s).den = s.den ∧ (roSl st.own s).ok (withOwn st R) w := by
  have mono : ∀ s : SV, s.ok R w → s.ok (withOwn st R) w := SV.ok_mono (fun _ h => .inl h) (fun _ _ => rfl)
  unfold roSl
  cases hany : asAny st.own s with
  | none => exact ⟨rfl, mono s hs⟩
  | some p =>
    obtain ⟨a', len, cap, sz, rd⟩ := p
    refine ⟨(asAny_cells hany h.own hs).1.symm, ?_⟩
    have rd_ok : ∀ {s : SV}, asRead st.own s = some (a', len, cap, sz, rd) → s.ok R w → (SV.sl a' len cap sz rd).ok (withOwn st R) w := fun h1 h2 => mono _ (asRead_ok h1 h.own h2).2
    unfold asAny at hany
    split at hany
    · rename_i id a1 len1 cap1
      split at hany
      · rename_i a2 e2 len2 cap2 sz2 rd2 ho2
        split at hany
        · rename_i heq
          obtain ⟨rfl, rfl, rfl⟩ := heq
          simp only [Option.some.injEq, Prod.mk.injEq] at hany
          obtain ⟨rfl, rfl, rfl, rfl, rfl⟩ := hany
          exact row_sl (h.own _ _ ho2) (fun _ h => .inl h) (fun b hb => .inr ⟨_, _, ho2, hb⟩)
        · cases hany
      · exact rd_ok hany hs
    · exact rd_ok hany hs
theorem roArgS_ok (h : RelR F R0 w0 ob R st a w) {s : SV} (hs : s.ok R w) : (roArgS st.own s).den = s.den ∧ (roArgS st.own s).ok (withOwn st R) w := by
  cases s with
  | tt => exact ⟨rfl, trivial⟩
  | ff => exact ⟨rfl, trivial⟩
  | _ => exact roSl_ok h hs
theorem roPtr_ok (h : RelR F R0 w0 ob R st a w) {s : SV} (hs : s.ok R w) : (roPtr st.own s).den = s.den ∧ (roPtr st.own s).ok (withOwn st R) w := by
  cases s with
  | op id blk off =>
    simp only [roPtr]
    split
    · rename_i blk' ty cs hid
      split
      · rename_i hc
        obtain ⟨rfl, hoff⟩ := hc
        obtain ⟨_, _, hg, hcs⟩ := h.own _ _ hid
        refine ⟨rfl, blk', off, rfl, .inr ⟨id, _, hid, rfl⟩, fun j hj => ?_⟩
        have hlt : off + j < cs.length := by omega
        have hm : cs.getD (off + j) default ∈ cs := getD_mem hlt
        refine ⟨?_, (hcs _ hm).1, SV.ok_mono (fun _ h => .inl h) (fun _ _ => rfl) _ (hcs _ hm).2⟩
        rw [cell_of_row w blk' _ _ _ _ hg]
        simp [List.getD, hlt]
      · exact ⟨rfl, hs⟩
    · exact ⟨rfl, hs⟩
  | _ => exact roArgS_ok h hs
theorem roArg_ok (h : RelR F R0 w0 ob R st a w) {s : SV} (hs : s.ok R w) : (roArg st.own s).den = s.den ∧ (roArg st.own s).ok (withOwn st R) w := by
  cases s with
  | fn f n rd =>
    refine ⟨?_, fun j hj => (roPtr_ok h (hs j hj)).2⟩
    simp only [roArg, SV.den]
    congr 2
    apply List.map_congr_left
    intro j hj
    exact (roPtr_ok h (hs j (by simpa using hj))).1
  | _ => exact roPtr_ok h hs
theorem withOwn_lt (h : RelR F R0 w0 ob R st a w) : ∀ b, withOwn st R b → b < w.heap.size ∧ ¬ F.M b := by
  rintro b (hb | ⟨i, o, ho, hb⟩)
  · exact ⟨(h.rr b hb).1, (h.rr b hb).2.1⟩
  · obtain ⟨h1, h2, _⟩ := Own.blk_lt (h.own i o ho) hb
    exact ⟨h2, fun hm => by have := h.ltM hm; omega⟩
theorem callK_plain {f : FuncId} {args : List SV} {post : SV → Prop} (h : Contract F P f (args.map (roArg st.own)) post) (hp : ∀ r, post r → ∀ R w, r.ok R w) (hk : ∀ r, post r → k (st.put dst r)) : CallK P F f args st dst k := by
  intro R0 w0 ob R a w hr hargs
  refine ⟨h.enters, ?_⟩
  have hden : (args.map (roArg st.own)).map SV.den = args.map SV.den := by
    rw [List.map_map]
    exact List.map_congr_left fun s hs => (roArg_ok hr (hargs s hs)).1
  have hc := h.calls (withOwn st R) w hr.inv (fun s hs => by obtain ⟨s', hs', rfl⟩ := List.mem_map.1 hs; exact (roArg_ok hr (hargs s' hs')).2) (withOwn_lt hr)
  rw [hden] at hc
  refine hc.mono ?_
  rintro e w' ⟨r, rfl, hpost, _, hevo, hinv⟩
  exact ⟨r, st, _, rfl, hk r hpost, hp r hpost _ _, hr.called hevo hinv, rfl⟩
def frzOne (own : List Own) : SV → List Own
  | .os id a len cap => match own[id]? with
    | some (.row a' e len' cap' sz rd) => own.set id (.frz a' len' cap' sz rd)
    | _ => own
  | _ => own
def frz (own : List Own) (args : List SV) : List Own := args.foldl frzOne own
theorem RelR.frzOne (h : RelR F R0 w0 ob R st a w) (s : SV) : ∃ R', (∀ b, R b → R' b) ∧ RelR F R0 w0 ob R' { st with own := Eng.frzOne st.own s } a w := by
  have same : ∃ R', (∀ b, R b → R' b) ∧ RelR F R0 w0 ob R' { st with own := st.own } a w := ⟨R, fun _ h => h, h⟩
  cases s with
  | os id ad len cap =>
    simp only [Eng.frzOne]
    split
    · rename_i a' e len' cap' sz rd hid
      have hidl : id < st.own.length := (List.getElem?_eq_some_iff.1 hid).1
      refine ⟨fun b => R b ∨ (Own.row a' e len' cap' sz rd).blk = some b, fun _ h => .inl h, ?_⟩
      refine h.turn (fun _ => False) rfl rfl rfl (Nat.le_refl _) (fun _ h => h.elim) (fun _ _ _ => rfl) (fun _ h => .inl h) (fun b hb => ?_) ?_ ?_ (gb_set h.evo.size h.gb hid fun b hb => by cases hb)
      · rcases hb with hb | hb
        · exact .inl hb
        · obtain ⟨h1, h2, _⟩ := Own.blk_lt (h.own _ _ hid) hb
          exact .inr ⟨h1, h2, h.gb id _ hid b hb⟩
      · intro i x hx
        rw [List.getElem?_set] at hx
        split at hx
        · rename_i e'
          subst e'
          simp only [hidl, if_true, Option.some.injEq] at hx
          subst hx
          exact row_sl (h.own _ _ hid) (fun _ h => .inl h) (fun b hb => .inr hb)
        · rename_i hne
          refine Own.ok_keep (h.own i x hx) (fun _ h => .inl h) (fun b hbx hr => ?_) (fun _ _ => rfl) (fun _ _ => rfl)
          rcases hr with hr | hr
          · exact hr
          · exact absurd hbx (h.dist id i _ x hne hid hx b hr)
      · intro i j o1 o2 hij h1 h2 b hb1 hb2
        rw [List.getElem?_set] at h1 h2
        split at h1 <;> split at h2
        · omega
        · rename_i e' hne
          subst e'
          simp only [hidl, if_true, Option.some.injEq] at h1
          subst h1
          cases hb1
        · rename_i hne e'
          subst e'
          simp only [hidl, if_true, Option.some.injEq] at h2
          subst h2
          cases hb2
        · exact h.dist i j o1 o2 hij h1 h2 b hb1 hb2
    · exact same
  | _ => exact same
theorem RelR.frz (args : List SV) : ∀ {st : St} {R : Nat → Prop}, RelR F R0 w0 ob R st a w → ∃ R', (∀ b, R b → R' b) ∧ RelR F R0 w0 ob R' { st with own := Eng.frz st.own args } a w := by
  induction args with
  | nil => intro st R h; exact ⟨R, fun _ h => h, h⟩
  | cons s rest ih =>
    intro st R h
    obtain ⟨R1, hm1, h1⟩ := h.frzOne s
    obtain ⟨R2, hm2, h2⟩ := ih h1
    exact ⟨R2, fun b hb => hm2 b (hm1 b hb), h2⟩
theorem frzOne_row {own : List Own} {s : SV} {i : Nat} {a : Option Addr} {e len cap sz : Nat} {rd : Nat → Nat → SV} (h : (Eng.frzOne own s)[i]? = some (.row a e len cap sz rd)) : own[i]? = some (.row a e len cap sz rd) ∧ ∀ a' len' cap', s ≠ .os i a' len' cap' := by
  cases s with
  | os id ad len' cap' =>
    simp only [Eng.frzOne] at h
    split at h
    · rename_i a1 e1 len1 cap1 sz1 rd1 hid
      rw [List.getElem?_set] at h
      split at h
      · split at h <;> cases h
      · rename_i hne
        exact ⟨h, fun a' l' c' e => by simp only [SV.os.injEq] at e; exact hne e.1⟩
    · rename_i hn
      refine ⟨h, fun a' l' c' e' => ?_⟩
      simp only [SV.os.injEq] at e'
      obtain ⟨rfl, _⟩ := e'
      exact hn _ _ _ _ _ _ h
  | _ => exact ⟨h, fun _ _ _ e => by cases e⟩
theorem frz_row : ∀ (args : List SV) {own : List Own} {i : Nat} {a : Option Addr} {e len cap sz : Nat} {rd : Nat → Nat → SV}, (Eng.frz own args)[i]? = some (.row a e len cap sz rd) → own[i]? = some (.row a e len cap sz rd) ∧ ∀ s ∈ args, ∀ a' len' cap', s ≠ .os i a' len' cap'
  | [], own, i, a, e, len, cap, sz, rd, h => ⟨h, by simp⟩
  | s :: rest, own, i, a, e, len, cap, sz, rd, h => by
    obtain ⟨h1, h2⟩ := frz_row rest (own := Eng.frzOne own s) h
    obtain ⟨h3, h4⟩ := frzOne_row h1
    exact ⟨h3, fun s' hs' => (List.mem_cons.1 hs').elim (fun e => e ▸ h4) (h2 s')⟩
theorem callK_slice {f : FuncId} {args : List SV} {post : SV → Prop} (h : Contract F P f (args.map (roArgS (frz st.own args))) post) (hk : ∀ r, post r → k (St.put { st with own := frz st.own args } dst r)) : CallK P F f args st dst k := by
  intro R0 w0 ob R a w hr hargs
  refine ⟨h.enters, ?_⟩
  obtain ⟨R1, hm1, hr1⟩ := hr.frz args
  have hargs1 : ∀ s ∈ args, s.ok R1 w := fun s hs => SV.ok_mono hm1 (fun _ _ => rfl) s (hargs s hs)
  have hden : (args.map (roArgS (Eng.frz st.own args))).map SV.den = args.map SV.den := by
    rw [List.map_map]
    exact List.map_congr_left fun s hs => (roArgS_ok hr1 (hargs1 s hs)).1
  have hok : ∀ s ∈ args.map (roArgS (Eng.frz st.own args)), s.ok R1 w := by
    intro s' hs'
    obtain ⟨s, hs, rfl⟩ := List.mem_map.1 hs'
    have key : (roSl (Eng.frz st.own args) s).ok R1 w → (roArgS (Eng.frz st.own args) s).ok R1 w := fun h => by cases s <;> first | trivial | exact h
    apply key
    unfold roSl
    cases hany : asAny (Eng.frz st.own args) s with
    | none => exact hargs1 s hs
    | some p =>
      obtain ⟨a', len, cap, sz, rd⟩ := p
      have rd_ok : ∀ {s : SV}, asRead (Eng.frz st.own args) s = some (a', len, cap, sz, rd) → s.ok R1 w → (SV.sl a' len cap sz rd).ok R1 w := fun h1 h2 => (asRead_ok (st := { st with own := Eng.frz st.own args }) h1 hr1.own h2).2
      unfold asAny at hany
      split at hany
      · rename_i id a1 len1 cap1
        split at hany
        · rename_i a2 e2 len2 cap2 sz2 rd2 ho2
          exact absurd rfl ((frz_row args ho2).2 _ hs a1 len1 cap1)
        · exact rd_ok hany (hargs1 _ hs)
      · exact rd_ok hany (hargs1 _ hs)
  have hc := h.calls R1 w hr1.inv hok (fun b hb => ⟨(hr1.rr b hb).1, (hr1.rr b hb).2.1⟩)
  rw [hden] at hc
  refine hc.mono ?_
  rintro e w' ⟨r, rfl, hpost, hrok, hevo, hinv⟩
  exact ⟨r, _, _, rfl, hk r hpost, hrok, hr1.called hevo hinv, rfl⟩
/-! ### A region's operations, in order -/
def byT : TypeId := 22
def sBytes (P : Program) (st : St) (dst : Option Tmp) (s d : TypeId) (x : Operand) (k : St → Prop) : Prop :=
  match ev st.env x, tk P s, tk P d with
  | some (.v (.string b)), .str, .slice e => (tk P e = .int .u8 ∧ b.size ≤ 1000000) ∧ ∀ blk cap : Nat, k (st.put dst (.sl (some ⟨blk, 0, none⟩) b.size cap 1 fun i _ => .i .u8 (b.data.toList.getD i 0).toNat))
  | _, _, _ => False
theorem sBytes_good {s d : TypeId} {x : Operand} (hd : dstOk st dst) (h : sBytes P st dst s d x k) : Good P F (.convert s d x) dst st k := by
  rintro R0 w0 a w o next Q ho rfl ⟨ob, R, hr⟩ hk
  unfold sBytes at h
  split at h
  · rename_i b e hx hs hsl
    obtain ⟨⟨he, hb⟩, h⟩ := h
    have h1 := (ev_ok hr.env hx).1
    have hrun := Lib.run_convert_string_bytes w s d e b (tk_str hs) (tk_slice hsl) (tk_int he)
    have hex : (execOp a.eval o).run P w = .ok (.value (.slice (some ⟨w.heap.size, 0, none⟩) b.size (grownCap w b.size 0 e))) (Lib.bytesWorld w e b) := by
      unfold execOp
      rw [ho]
      simp only [h1, SV.den, Sem.run_bind, hrun, Result.andThen_ok, Sem.run_pure]
    unfold Oper.wp
    rw [hex]
    have hsz := Lib.bytesWorld_size w e b
    have hevo : Evo F.M w (Lib.bytesWorld w e b) := ⟨rfl, rfl, rfl, by rw [hsz]; exact Nat.le_succ _, fun i hi _ => Lib.bytesWorld_at_old w e b i hi⟩
    have hinv : F.Inv (Lib.bytesWorld w e b) := F.stab w _ w.heap.size hr.inv (fun b hb => F.lt w b hr.inv hb) fun i hi => Lib.bytesWorld_at_old w e b i hi
    have hr' := hr.called hevo hinv
    refine hk _ _ _ (h w.heap.size (grownCap w b.size 0 e)) ⟨ob, _, hr'.put (s := .sl (some ⟨w.heap.size, 0, none⟩) b.size (grownCap w b.size 0 e) 1 fun i _ => .i .u8 (b.data.toList.getD i 0).toNat) (dstOk_of hd) ?_⟩
    refine ⟨grownCap_ge w _ _ _, grownCap_le_maxLen w _ _ _ (by unfold maxLen; omega), .inr ⟨w.heap.size, 0, rfl, .inr ⟨Nat.le_refl _, by rw [hsz]; exact Nat.lt_succ_self _⟩, fun i j hi hj => ?_⟩⟩
    obtain rfl : j = 0 := by omega
    have hc := Lib.bytesWorld_cell w e b i hi
    refine ⟨?_, rfl, trivial⟩
    rw [show 0 + i * 1 + 0 = i by omega]
    exact hc
  · exact h.elim
def stepO (P : Program) (F : Frm) (st : St) (dst : Option Tmp) (op : Op) (k : St → Prop) : Prop :=
  match op with
  | .alloc t => sAlloc P st dst t k
  | .box t x => sBox st dst t x k
  | .store t x y => sStore P st dst t x y k
  | .buildSlice t n parts => sBuildSlice P st dst t n parts.toList k
  | .makeSlice t x y => sMake P st dst t x y k
  | .call { callee := .builtin .append, args := ⟨[x, y]⟩, argTypes := ⟨[t, t']⟩ } => if t = t' then sAppend P st dst t x y k else sZeros P st dst t t' x y k
  | .call { callee := .builtin .clear, args := ⟨[x]⟩, argTypes := ⟨[t]⟩ } => sClear P st dst t x k
  | .call { callee := .builtin .copy, args := ⟨[x, y]⟩, argTypes := ⟨[t, _]⟩ } => sCopy P st dst t x y k
  | .call { callee := .value (.func f), args := args, argTypes := _ } => (match evs st.env args.toList with
    | some l => CallK P F f l st dst k
    | none => False)
  | .call { callee := .value (.tmp t), args := args, argTypes := _ } => (match look st.env t, evs st.env args.toList with
    | some (.fn f n rd), some l => CallK P F f (l ++ (List.range n).map rd) st dst k
    | _, _ => False)
  | .slice t x lo hi none => if isRow st.own (ev st.env x) = true then sCut P st dst t x lo hi k else (rOp P st (.slice t x lo hi none)).holds fun s => k (st.put dst s)
  | .makeMap t none => sMakeMap P st dst t k
  | .mapUpdate t m x v => sMapUpd P st dst t m x v k
  | .convert s d x => if d = byT then sBytes P st dst s d x k else (rOp P st (.convert s d x)).holds fun s => k (st.put dst s)
  | op => (rOp P st op).holds fun s => k (st.put dst s)
theorem stepO_good {op : Op} (hd : dstOk st dst) (h : stepO P F st dst op k) : Good P F op dst st k := by
  unfold stepO at h
  split at h
  · exact sAlloc_good hd h
  · exact sBox_good hd h
  · exact sStore_good hd h
  · exact sBuildSlice_good hd h
  · exact sMake_good hd h
  · split at h
    · rename_i e; subst e; exact sAppend_good hd h
    · exact sZeros_good hd h
  · exact sClear_good hd h
  · exact sCopy_good hd h
  · split at h
    · rename_i he; exact call_good hd he h
    · exact h.elim
  · split at h
    · rename_i hf he; exact call_fn_good hd hf he h
    · exact h.elim
  · split at h
    · exact sCut_good hd h
    · exact Good.of_vok hd (rOp_ok h)
  · exact sMakeMap_good hd h
  · exact sMapUpd_good hd h
  · split at h
    · exact sBytes_good hd h
    · exact Good.of_vok hd (rOp_ok h)
  · exact Good.of_vok hd (rOp_ok h)
def WO (P : Program) (F : Frm) (ds : List (Option Tmp)) : List Oper → St → (St → Prop) → Prop
  | [], st, k => k st
  | o :: rest, st, k =>
    match o.guard with
    | none => dstOk st o.dst ∧ stepO P F st o.dst o.op fun st' => WO P F ds rest st' k
    | some (j, want) => match (ds[j]?).bind id with
      | none => False
      | some t => match look st.env t with
        | some .tt => if want = true then dstOk st o.dst ∧ (stepO P F st o.dst o.op fun st' => WO P F ds rest st' k) else dstOk st o.dst ∧ WO P F ds rest (st.put o.dst (.v undef)) k
        | some .ff => if want = false then dstOk st o.dst ∧ (stepO P F st o.dst o.op fun st' => WO P F ds rest st' k) else dstOk st o.dst ∧ WO P F ds rest (st.put o.dst (.v undef)) k
        | some (.v (.tuple _)) => dstOk st o.dst ∧ WO P F ds rest (st.put o.dst (.v undef)) k
        | some (.b x) => t < st.n ∧ (x = true → if want = true then dstOk (st.put (some t) .tt) o.dst ∧ (stepO P F (st.put (some t) .tt) o.dst o.op fun st' => WO P F ds rest st' k) else dstOk (st.put (some t) .tt) o.dst ∧ WO P F ds rest ((st.put (some t) .tt).put o.dst (.v undef)) k) ∧
            (x = false → if want = false then dstOk (st.put (some t) .ff) o.dst ∧ (stepO P F (st.put (some t) .ff) o.dst o.op fun st' => WO P F ds rest st' k) else dstOk (st.put (some t) .ff) o.dst ∧ WO P F ds rest ((st.put (some t) .ff).put o.dst (.v undef)) k)
        | _ => False
theorem yielded_dst {ops : Array Oper} {tmps : Array Value} {j t : Nat} (hj : ((ops.toList.map (·.dst))[j]?).bind id = some t) {x : Bool} (ht : tmps[t]? = some (.bool x)) : yielded ops tmps j = some x := by
  rw [List.getElem?_map, Array.getElem?_toList] at hj
  unfold yielded
  cases ho : ops[j]? with
  | none => rw [ho] at hj; cases hj
  | some o =>
    rw [ho] at hj
    simp only [Option.map_some, Option.bind_some, id] at hj
    simp [hj, ht]
theorem yielded_none {ops : Array Oper} {tmps : Array Value} {j t : Nat} (hj : ((ops.toList.map (·.dst))[j]?).bind id = some t) {vs : Array Value} (ht : tmps[t]? = some (.tuple vs)) : yielded ops tmps j = none := by
  rw [List.getElem?_map, Array.getElem?_toList] at hj
  unfold yielded
  cases ho : ops[j]? with
  | none => rw [ho] at hj; cases hj
  | some o =>
    rw [ho] at hj
    simp only [Option.map_some, Option.bind_some, id] at hj
    simp [hj, ht]
theorem RelR.know (h : RelR F R0 w0 ob R st a w) {t : Tmp} {s s' : SV} (hl : look st.env t = some s) (hd : s'.den = s.den) (hs : ∀ w, s'.ok R w) : RelR F R0 w0 ob R (st.put (some t) s') a w := by
  refine ⟨h.defers, ?_, h.size, h.own, h.dist, h.evo, h.inv, h.obM, h.gb, h.obw, h.rr, h.r0⟩
  intro u s2 hu
  simp only [St.put, look] at hu
  by_cases e : t = u
  · rw [if_pos e, Option.some.injEq] at hu
    subst hu; subst e
    exact ⟨by rw [hd]; exact (h.env t s hl).1, hs w⟩
  · rw [if_neg e] at hu
    exact h.env u s2 hu
theorem wo_sound {ops : Array Oper} {Q : Exit → Act → World → Prop} : ∀ (l : List Oper) (st : St) (a : Act) (w : World), WO P F (ops.toList.map (·.dst)) l st k → Rel F R0 w0 st a w →
    (∀ st' a' w', k st' → Rel F R0 w0 st' a' w' → Q .normal a' w') → wpList P ops Q l a w
  | [], st, a, w, h, hr, hk => hk _ _ _ h hr
  | o :: rest, st, a, w, h, hr, hk => by
    have run : ∀ {st : St}, Rel F R0 w0 st a w → dstOk st o.dst → (stepO P F st o.dst o.op fun st' => WO P F (ops.toList.map (·.dst)) rest st' k) → o.wp P a w (wpList P ops Q rest) Q := fun hr hd hs =>
      stepO_good hd hs _ _ _ _ o _ _ rfl rfl hr fun st' a' w' h' hr' => wo_sound rest st' a' w' h' hr' hk
    unfold WO at h
    unfold wpList
    split at h
    · rename_i hg
      rw [if_pos (by simp [Region.wanted, hg])]
      exact .inl (run hr h.1 h.2)
    · rename_i j want hg
      split at h
      · exact h.elim
      · rename_i t hj
        obtain ⟨ob, R, hrr⟩ := hr
        split at h
        · rename_i hl
          have hy := yielded_dst (tmps := a.tmps) hj (hrr.env t _ hl).1
          split at h
          · rename_i hw
            subst hw
            rw [if_pos (by simp [Region.wanted, hg, hy])]
            exact .inl (run ⟨ob, R, hrr⟩ h.1 h.2)
          · rename_i hw
            have hwf : want = false := by simpa using hw
            subst hwf
            rw [if_neg (by simp [Region.wanted, hg, hy])]
            exact wo_sound rest _ _ _ h.2 ⟨ob, R, hrr.put (s := .v undef) (dstOk_of h.1) trivial⟩ hk
        · rename_i hl
          have hy := yielded_dst (tmps := a.tmps) hj (hrr.env t _ hl).1
          split at h
          · rename_i hw
            subst hw
            rw [if_pos (by simp [Region.wanted, hg, hy])]
            exact .inl (run ⟨ob, R, hrr⟩ h.1 h.2)
          · rename_i hw
            have hwf : want = true := by simpa using hw
            subst hwf
            rw [if_neg (by simp [Region.wanted, hg, hy])]
            exact wo_sound rest _ _ _ h.2 ⟨ob, R, hrr.put (s := .v undef) (dstOk_of h.1) trivial⟩ hk
        · rename_i vs hl
          have hy : yielded ops a.tmps j = none := yielded_none hj (hrr.env t _ hl).1
          rw [if_neg (by simp [Region.wanted, hg, hy])]
          exact wo_sound rest _ _ _ h.2 ⟨ob, R, hrr.put (s := .v undef) (dstOk_of h.1) trivial⟩ hk
        · rename_i x hl
          obtain ⟨_, ht, hf⟩ := h
          have hy := yielded_dst (tmps := a.tmps) hj (hrr.env t _ hl).1
          cases x with
          | true =>
            have h := ht rfl
            have hr' := hrr.know (s' := .tt) hl rfl (fun _ => trivial)
            split at h
            · rename_i hw
              subst hw
              rw [if_pos (by simp [Region.wanted, hg, hy])]
              exact .inl (run ⟨ob, R, hr'⟩ h.1 h.2)
            · rename_i hw
              have hwf : want = false := by simpa using hw
              subst hwf
              rw [if_neg (by simp [Region.wanted, hg, hy])]
              exact wo_sound rest _ _ _ h.2 ⟨ob, R, hr'.put (s := .v undef) (dstOk_of h.1) trivial⟩ hk
          | false =>
            have h := hf rfl
            have hr' := hrr.know (s' := .ff) hl rfl (fun _ => trivial)
            split at h
            · rename_i hw
              subst hw
              rw [if_pos (by simp [Region.wanted, hg, hy])]
              exact .inl (run ⟨ob, R, hr'⟩ h.1 h.2)
            · rename_i hw
              have hwf : want = true := by simpa using hw
              subst hwf
              rw [if_neg (by simp [Region.wanted, hg, hy])]
              exact wo_sound rest _ _ _ h.2 ⟨ob, R, hr'.put (s := .v undef) (dstOk_of h.1) trivial⟩ hk
        · exact h.elim
end
end Eng
end Go.Proofs.YtpkmnggfomllhaaDoor
