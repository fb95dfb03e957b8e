import Derived.Test.YtepbdjpcoleegaaPk2

/- The evaluator, part P: functions that give back a new row of their own. -/
set_option linter.unusedSimpArgs false
set_option linter.unusedVariables false
namespace Go.Proofs.Ytepbdjpcoleegaa
namespace Eng
structure ContractN (F : Frm) (P : Program) (f : FuncId) (args : List SV) (post : Own → Prop) : Prop where
 enters : ∀ vs w, (callFunc f vs).run P w = .ok (.enter f vs) w
 calls : ∀ (R : Nat → Prop) (w : World), F.Inv w → (∀ s ∈ args, s.ok R w) → (∀ b, R b → b < w.heap.size ∧ ¬ F.M b) →
  Calls P f (args.map SV.den).toArray w fun e w' => ∃ (a : Option Addr) (ty len cap sz : Nat) (rd : Nat → Nat → SV) (R' : Nat → Prop), e = .returned (.slice a len cap) ∧ post (.row a ty len cap sz rd) ∧ (∀ b, R b → R' b) ∧
   (∀ b, R' b → R b ∨ (w.heap.size ≤ b ∧ b < w'.heap.size)) ∧ (Own.row a ty len cap sz rd).ok R' w.heap.size w' ∧ Evo F.M w w' ∧ F.Inv w'
theorem ContractN.mono {F : Frm} {P : Program} {f : FuncId} {args : List SV} {post post' : Own → Prop} (h : ContractN F P f args post) (hp : ∀ o, post o → post' o) : ContractN F P f args post' :=
 ⟨h.enters, fun R w h1 h2 h3 => (h.calls R w h1 h2 h3).mono fun e w' ⟨a, ty, len, cap, sz, rd, R', e1, e2, e3⟩ => ⟨a, ty, len, cap, sz, rd, R', e1, hp _ e2, e3⟩⟩
def newRow (own : List Own) (post : Own → Prop) : SV → Prop
 | .os id a len cap => (match own[id]? with
  | some (.row a1 ty len1 cap1 sz rd) => (a1 = a ∧ len1 = len ∧ cap1 = cap) ∧ post (.row a1 ty len1 cap1 sz rd)
  | _ => False)
 | _ => False
def retNK (st : St) (post : Own → Prop) : List SV → Prop
 | [s] => newRow st.own post s
 | _ => False
def retN (P : Program) (rs : List ResultVar) (post : Own → Prop) : Exit → St → Prop
 | .normal, st => resHolds P st rs (retNK st post)
 | .ret, st => resHolds P st rs (retNK st post)
 | _, _ => False
theorem contractN_of {P : Program} {F : Frm} {f : FuncId} {fn : Func} {c : Code} {args : List SV} {post : Own → Prop} (hf : P.funcs[f]? = some fn) (hb : fn.body = some c) (hname : (fn.name == "runtime.NumGoroutine") = false)
  (h : Sat P F c ⟨fn.ntmps, argEnv 0 args, []⟩ (retN P fn.results.toList post)) : ContractN F P f args post := by
 refine ⟨fun vs w => ?_, fun R w hinv hargs hR => ?_⟩
 ·have hn : ¬ fn.name = "runtime.NumGoroutine" := by simpa using hname
  simp [callFunc, hf, hn, hb]
 ·refine calls_of_wp hf hb ?_
  have hrel : RelR F R ⟨w, fun _ => False⟩ w.heap.size R ⟨fn.ntmps, argEnv 0 args, []⟩ { tmps := (args.map SV.den).toArray ++ Array.replicate (fn.ntmps - (args.map SV.den).toArray.size) undef, defers := [] } w := by
   refine ⟨rfl, ?_, ?_, fun i o ho => by simp at ho, fun i j o o' _ ho => by simp at ho, Evo.refl _ _, hinv, fun b hb => F.lt w b hinv hb, fun i o ho => by simp at ho, Nat.le_refl _, fun b hb => ⟨(hR b hb).1, (hR b hb).2, .inl hb⟩, fun _ h => h⟩
   ·intro t s ht
    obtain ⟨j, rfl, hj⟩ := look_argEnv args 0 t s ht
    have hlt := (List.getElem?_eq_some_iff.1 hj).1
    refine ⟨?_, hargs s (List.mem_of_getElem? hj)⟩
    rw [Nat.zero_add, Array.getElem?_append_left (by simpa using hlt)]
    simp [hj]
   ·simp; omega
  refine wp_mono (h R ⟨w, fun _ => False⟩ _ w ⟨_, R, hrel⟩) ?_
  have fin : ∀ a' w' st', resHolds P st' fn.results.toList (retNK st' post) → Rel F R ⟨w, fun _ => False⟩ st' a' w' → a'.defers = [] ∧ ∃ v, (results fn a'.tmps).run P w' = .ok v w' ∧
    (fun e w' => ∃ (a : Option Addr) (ty len cap sz : Nat) (rd : Nat → Nat → SV) (R' : Nat → Prop), e = Ending.returned (.slice a len cap) ∧ post (.row a ty len cap sz rd) ∧ (∀ b, R b → R' b) ∧ (∀ b, R' b → R b ∨ (w.heap.size ≤ b ∧ b < w'.heap.size)) ∧ (Own.row a ty len cap sz rd).ok R' w.heap.size w' ∧ Evo F.M w w' ∧ F.Inv w') (.returned v) w' := by
   rintro a' w' st' hres ⟨ob', R', hr'⟩
   obtain ⟨l, hpost, hlok, hrun⟩ := resHolds_ok hr' hres
   have hmA : ∀ (g : ResultVar → Sem Value), (fn.results.toList.mapM g).run P w' = .ok (l.map SV.den) w' → (fn.results.mapM g).run P w' = .ok (l.map SV.den).toArray w' := by
    intro g hg
    rw [Array.mapM_eq_mapM_toList]
    simp only [Sem.run_map, hg, Result.andThen_ok]
   obtain ⟨s, rfl, hp2⟩ : ∃ s, l = [s] ∧ newRow st'.own post s := by
    match l, hpost with
    | [s], h => exact ⟨s, rfl, h⟩
   obtain ⟨id, a, len, cap, rfl⟩ : ∃ id a len cap, s = .os id a len cap := by
    cases s <;> first | exact hp2.elim | exact ⟨_, _, _, _, rfl⟩
   clear hpost
   unfold newRow at hp2
   cases ho : st'.own[id]? with
   | none => simp only [ho] at hp2
   | some o =>
    simp only [ho] at hp2
    cases o with
    | row a1 ty len1 cap1 sz rd =>
     obtain ⟨⟨rfl, rfl, rfl⟩, hpost⟩ := hp2
     refine ⟨hr'.defers, .slice a1 len1 cap1, ?_, a1, ty, len1, cap1, sz, rd, R', rfl, hpost, hr'.r0, fun b hb => ?_, Own.rebase (hr'.own id _ ho) (fun b hb => ?_), ⟨hr'.evo.os, hr'.evo.tape, hr'.evo.output, hr'.evo.size, fun b hb hm => hr'.evo.block b hb (fun h => h.elim hm (fun h => h))⟩, hr'.inv⟩
     ·unfold results
      rw [Sem.run_bind]
      show ((fn.results.mapM (resRun a'.tmps)).run P w').andThen _ = _
      rw [hmA _ hrun]
      simp [SV.den]
     ·rcases (hr'.rr b hb).2.2 with h | h | h
      ·exact .inl h
      ·exact .inr ⟨h, (hr'.rr b hb).1⟩
      ·exact h.elim
     ·rcases hr'.gb id _ ho b hb with h | h
      ·exact h
      ·exact h.elim
    | _ => exact hp2.elim
  rintro e a' w' ⟨st', hk, hr'⟩
  cases e with
  | normal => exact fin a' w' st' hk hr'
  | ret => exact fin a' w' st' hk hr'
  | _ => exact hk.elim
section
variable {P : Program} {F : Frm} {st : St} {k : St → Prop} {dst : Option Tmp} {ds : List (Option Tmp)} {rest : List Oper}
variable {R0 R : Nat → Prop} {w0 : Org} {w : World} {ob : Nat} {a : Act}
theorem RelR.calledN (h : RelR F R0 w0 ob R st a w) {w' : World} {R' : Nat → Prop} {o1 : Own} (he : Evo F.M w w') (hi : F.Inv w') (hRR : ∀ b, R b → R' b) (hR' : ∀ b, R' b → R b ∨ (w.heap.size ≤ b ∧ b < w'.heap.size)) (ho1 : o1.ok R' w.heap.size w') :
  RelR F R0 w0 ob R' { st with own := st.own ++ [o1] } a w' := by
 have hRb : ∀ b, R b → w'.heap[b]? = w.heap[b]? := fun b hr => he.block b (h.rr b hr).1 (h.rr b hr).2.1
 have hown : ∀ (i : Nat) (o : Own), st.own[i]? = some o → ∀ b, o.blk = some b → w'.heap[b]? = w.heap[b]? := fun i o ho b hb => by
  obtain ⟨h1, h2, _⟩ := Own.blk_lt (h.own i o ho) hb
  exact he.block b h2 (fun hm => by have := h.ltM hm; omega)
 have hobw := h.obw
 have hsz := h.evo.size
 refine ⟨h.defers, fun t s ht => ⟨(h.env t s ht).1, SV.ok_mono hRR hRb s (h.env t s ht).2⟩, h.size, ?_, ?_, h.evo.trans ⟨he.os, he.tape, he.output, he.size, fun b hb hm => he.block b hb (fun h => hm (.inl h))⟩, hi, h.obM, ?_, Nat.le_trans h.obw he.size, ?_, fun b hb => hRR b (h.r0 b hb)⟩
 ·intro i o ho
  rcases get_append_one ho with ho | ⟨_, rfl⟩
  ·refine Own.ok_keep (h.own i o ho) hRR (fun b hb hr => ?_) hRb (hown i o ho)
   rcases hR' b hr with hr | ⟨hr, _⟩
   ·exact hr
   ·have := (Own.blk_lt (h.own i o ho) hb).2.1
    omega
  ·exact Own.rebase ho1 (fun b hb => by have := (Own.blk_lt ho1 hb).1; omega)
 ·intro i j o o' hij ho ho' b hb hb'
  rcases get_append_one ho with p1 | ⟨hi', rfl⟩ <;> rcases get_append_one ho' with p2 | ⟨hj', rfl⟩
  ·exact h.dist i j o o' hij p1 p2 b hb hb'
  ·have g1 := (Own.blk_lt (h.own i o p1) hb).2.1
   have g2 := (Own.blk_lt ho1 hb').1
   omega
  ·have g1 := (Own.blk_lt (h.own j o' p2) hb').2.1
   have g2 := (Own.blk_lt ho1 hb).1
   omega
  ·omega
 ·intro i o ho b hb
  rcases get_append_one ho with ho | ⟨_, rfl⟩
  ·exact h.gb i o ho b hb
  ·have := (Own.blk_lt ho1 hb).1
   exact .inl (by omega)
 ·intro b hb
  rcases hR' b hb with hb | ⟨hb1, hb2⟩
  ·obtain ⟨g1, g2, g3⟩ := h.rr b hb
   exact ⟨Nat.lt_of_lt_of_le g1 he.size, g2, g3⟩
  ·exact ⟨hb2, fun hm => by have := h.ltM hm; omega, .inr (.inl (by omega))⟩
theorem roArgS_all {st' : St} {R1 : Nat → Prop} (args : List SV) (hst : st'.own = frz st.own args) (hr1 : RelR F R0 w0 ob R1 { st with own := frz st.own args } a w) (hargs1 : ∀ s ∈ args, s.ok R1 w) : ∀ s ∈ args.map (roArgS (frz st.own args)), s.ok R1 w := by
 intro s' hs'
 obtain ⟨s, hs, rfl⟩ := List.mem_map.1 hs'
 have key : (roSl (Eng.frz st.own args) s).ok R1 w → (roArgS (Eng.frz st.own args) s).ok R1 w := fun h => by cases s <;> first | trivial | exact h
 apply key
 unfold roSl
 cases hany : asAny (Eng.frz st.own args) s with
 | none => exact hargs1 s hs
 | some p =>
  obtain ⟨a', len, cap, sz, rd⟩ := p
  have rd_ok : ∀ {s : SV}, asRead (Eng.frz st.own args) s = some (a', len, cap, sz, rd) → s.ok R1 w → (SV.sl a' len cap sz rd).ok R1 w := fun h1 h2 => (asRead_ok (st := { st with own := Eng.frz st.own args }) h1 hr1.own h2).2
  unfold asAny at hany
  split at hany
  ·rename_i id a1 len1 cap1
   split at hany
   ·rename_i a2 e2 len2 cap2 sz2 rd2 ho2
    exact absurd rfl ((frz_row args ho2).2 _ hs a1 len1 cap1)
   ·exact rd_ok hany (hargs1 _ hs)
  ·exact rd_ok hany (hargs1 _ hs)
theorem callK_new {f : FuncId} {args : List SV} {post : Own → Prop} (h : ContractN F P f (args.map (roArgS (frz st.own args))) post)
  (hk : ∀ (a : Option Addr) (ty len cap sz : Nat) (rd : Nat → Nat → SV), post (.row a ty len cap sz rd) → k (St.put { st with own := frz st.own args ++ [.row a ty len cap sz rd] } dst (.os (frz st.own args).length a len cap))) : CallK P F f args st dst k := by
 intro R0 w0 ob R a w hr hargs
 refine ⟨h.enters, ?_⟩
 obtain ⟨R1, hm1, hr1⟩ := hr.frz args
 have hargs1 : ∀ s ∈ args, s.ok R1 w := fun s hs => SV.ok_mono hm1 (fun _ _ => rfl) s (hargs s hs)
 have hden : (args.map (roArgS (Eng.frz st.own args))).map SV.den = args.map SV.den := by
  rw [List.map_map]
  exact List.map_congr_left fun s hs => (roArgS_ok hr1 (hargs1 s hs)).1
 have hok := roArgS_all (st' := { st with own := frz st.own args }) args rfl hr1 hargs1
 have hc := h.calls R1 w hr1.inv hok (fun b hb => ⟨(hr1.rr b hb).1, (hr1.rr b hb).2.1⟩)
 rw [hden] at hc
 refine hc.mono ?_
 rintro e w' ⟨ad, ty, len, cap, sz, rd, R', rfl, hpost, hRR, hR', ho1, hevo, hinv⟩
 exact ⟨.os (frz st.own args).length ad len cap, _, R', rfl, hk ad ty len cap sz rd hpost, trivial, hr1.calledN hevo hinv hRR hR' ho1, rfl⟩
theorem wcall_new {f : FuncId} {args args' : List SV} {post : Own → Prop} {st : St} {own' : List Own} (h : ContractN F P f args' post) (ho : frz st.own args = own') (ha : args.map (roArgS own') = args')
  (hk : ∀ (a : Option Addr) (ty len cap sz : Nat) (rd : Nat → Nat → SV), post (.row a ty len cap sz rd) → WO P F ds rest (St.put { st with own := own' ++ [.row a ty len cap sz rd] } dst (.os own'.length a len cap)) k) : WCall P F ds rest dst st f (some args) k := by
 subst ho
 unfold WCall
 exact .inl <| callK_new (k := fun st' => WO P F ds rest st' k) (by rw [ha]; exact h) hk
end
end Eng
end Go.Proofs.Ytepbdjpcoleegaa
