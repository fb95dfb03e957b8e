/- The evaluator, part M: functions that turn an object of their caller's (a slice that is sorted in place, a counter behind a pointer). -/
import Derived.Test.YtpkmnggfomllhaaDoorEngL
set_option linter.unusedSimpArgs false
set_option linter.unusedVariables false
namespace Go.Proofs.YtpkmnggfomllhaaDoor
namespace Eng
structure ContractM (F : Frm) (P : Program) (f : FuncId) (args : List SV) (o0 : Own) (post : SV → Own → Prop) : Prop where
  enters : ∀ vs w, (callFunc f vs).run P w = .ok (.enter f vs) w
  calls : ∀ (R : Nat → Prop) (w : World) (ob : Nat), F.Inv w → (∀ b, F.L b → b < ob) → ob ≤ w.heap.size → o0.ok R ob w → (∀ s ∈ args, s.ok R w) → (∀ b, R b → b < w.heap.size ∧ ¬ F.M b) →
    Calls P f (args.map SV.den).toArray w fun e w' => ∃ (r : SV) (o1 : Own) (R' : Nat → Prop), e = .returned r.den ∧ post r o1 ∧ (∀ b, R b → R' b) ∧ (∀ b, R' b → R b ∨ (w.heap.size ≤ b ∧ b < w'.heap.size)) ∧ r.ok R' w' ∧
      (∀ b, o1.blk = some b → o0.blk = some b) ∧ o1.ok R' ob w' ∧ Evo (fun b => F.M b ∨ o0.blk = some b) w w' ∧ F.Inv w'
theorem ContractM.mono {F : Frm} {P : Program} {f : FuncId} {args : List SV} {o0 : Own} {post post' : SV → Own → Prop} (h : ContractM F P f args o0 post) (hp : ∀ r o, post r o → post' r o) : ContractM F P f args o0 post' :=
  ⟨h.enters, fun R w ob h1 h2 h3 h4 h5 h6 => (h.calls R w ob h1 h2 h3 h4 h5 h6).mono fun e w' ⟨r, o1, R', a, b, c⟩ => ⟨r, o1, R', a, hp _ _ b, c⟩⟩
def okM : SV → Bool
  | .os 0 _ _ _ => true
  | s => plainS s
def roB : SV → SV
  | .tt => .b true
  | .ff => .b false
  | s => s
def resM : List SV → SV
  | [s] => roB s
  | l => tupL (l.map roB)
def retMK (st : St) (post : SV → Own → Prop) (l : List SV) : Prop := l.all okM = true ∧ ∃ o1 tl, st.own = o1 :: tl ∧ post (resM l) o1
def retM (P : Program) (rs : List ResultVar) (post : SV → Own → Prop) : Exit → St → Prop
  | .normal, st => resHolds P st rs (retMK st post)
  | .ret, st => resHolds P st rs (retMK st post)
  | _, _ => False
theorem Own.rebase {R : Nat → Prop} {B B' : Nat} {w : World} {o : Own} (h : o.ok R B w) (hB : ∀ b, o.blk = some b → B' ≤ b) : o.ok R B' w := by
  cases o with
  | gone => trivial
  | box blk ty cs => exact ⟨hB _ rfl, h.2⟩
  | row a e len cap sz rd =>
    obtain ⟨h1, h2, h3⟩ := h
    refine ⟨⟨h1.1, ?_⟩, h2, h3⟩
    rcases h1.2 with hn | ⟨g, cap', cur, hv, hbg, rest⟩
    · exact .inl hn
    · refine .inr ⟨g, cap', cur, hv, ?_, rest⟩
      simp only [Value.slice.injEq] at hv
      obtain ⟨rfl, _, _⟩ := hv
      exact hB g rfl
  | frz a len cap sz rd => exact h
  | res blk p => exact ⟨hB _ rfl, h.2⟩
  | mp blk sc ks vk f => exact ⟨hB _ rfl, h.2⟩
theorem getD_map_lt {l : List SV} {g : SV → SV} {j : Nat} (h : j < l.length) : (l.map g).getD j default = g (l.getD j default) := by simp [List.getD, List.getElem?_eq_getElem h]
theorem roB_den (s : SV) : (roB s).den = s.den := by cases s <;> rfl
theorem okM_ok {s : SV} (h : okM s = true) (R : Nat → Prop) (w : World) : (roB s).ok R w := by
  cases s <;> first | trivial | (simp [okM, plainS] at h)
theorem contractM_of {P : Program} {F : Frm} {f : FuncId} {fn : Func} {c : Code} {args : List SV} {o0 : Own} {post : SV → Own → Prop} (hf : P.funcs[f]? = some fn) (hb : fn.body = some c) (hname : (fn.name == "runtime.NumGoroutine") = false)
    (hkeep : ∀ r o1, post r o1 → o1.blk = o0.blk)
    (h : Sat P F c ⟨fn.ntmps, argEnv 0 args, [o0]⟩ (retM P fn.results.toList post)) : ContractM F P f args o0 post := by
  refine ⟨fun vs w => ?_, fun R w ob hinv hobM hobw ho0 hargs hR => ?_⟩
  · have hn : ¬ fn.name = "runtime.NumGoroutine" := by simpa using hname
    simp [callFunc, hf, hn, hb]
  · refine calls_of_wp hf hb ?_
    have hown : ∀ (i : Nat) (o : Own), [o0][i]? = some o → o = o0 := fun i o ho => by
      cases i with
      | zero => simpa using ho.symm
      | succ i => simp at ho
    have hrel : RelR F R ⟨w, fun b => o0.blk = some b⟩ ob R ⟨fn.ntmps, argEnv 0 args, [o0]⟩ { tmps := (args.map SV.den).toArray ++ Array.replicate (fn.ntmps - (args.map SV.den).toArray.size) undef, defers := [] } w := by
      refine ⟨rfl, ?_, ?_, fun i o ho => by rw [hown i o ho]; exact ho0, fun i j o o' hij ho ho' => ?_, Evo.refl _ _, hinv, hobM, fun i o ho b hb => by rw [hown i o ho] at hb; exact .inr hb, hobw, fun b hb => ⟨(hR b hb).1, (hR b hb).2, .inl hb⟩, fun _ h => h⟩
      · intro t s ht
        obtain ⟨j, rfl, hj⟩ := look_argEnv args 0 t s ht
        have hlt := (List.getElem?_eq_some_iff.1 hj).1
        refine ⟨?_, hargs s (List.mem_of_getElem? hj)⟩
        rw [Nat.zero_add, Array.getElem?_append_left (by simpa using hlt)]
        simp [hj]
      · simp; omega
      · cases i with
        | zero => cases j with
          | zero => exact absurd rfl hij
          | succ j => simp at ho'
        | succ i => simp at ho
    refine wp_mono (h R ⟨w, fun b => o0.blk = some b⟩ _ w ⟨_, R, hrel⟩) ?_
    have fin : ∀ a' w' st', resHolds P st' fn.results.toList (retMK st' post) → Rel F R ⟨w, fun b => o0.blk = some b⟩ st' a' w' → a'.defers = [] ∧ ∃ v, (results fn a'.tmps).run P w' = .ok v w' ∧
        (fun e w' => ∃ (r : SV) (o1 : Own) (R' : Nat → Prop), e = Ending.returned r.den ∧ post r o1 ∧ (∀ b, R b → R' b) ∧ (∀ b, R' b → R b ∨ (w.heap.size ≤ b ∧ b < w'.heap.size)) ∧ r.ok R' w' ∧ (∀ b, o1.blk = some b → o0.blk = some b) ∧ o1.ok R' ob w' ∧ Evo (fun b => F.M b ∨ o0.blk = some b) w w' ∧ F.Inv w') (.returned v) w' := by
      rintro a' w' st' hres ⟨ob', R', hr'⟩
      obtain ⟨l, ⟨hall, o1, tl, hown', hpost⟩, hlok, hrun⟩ := resHolds_ok hr' hres
      have hmA : ∀ (g : ResultVar → Sem Value), (fn.results.toList.mapM g).run P w' = .ok (l.map SV.den) w' → (fn.results.mapM g).run P w' = .ok (l.map SV.den).toArray w' := by
        intro g hg
        rw [Array.mapM_eq_mapM_toList]
        simp only [Sem.run_map, hg, Result.andThen_ok]
      have h01 : st'.own[0]? = some o1 := by rw [hown']; rfl
      have hbk := hkeep _ _ hpost
      have hnR : ∀ b, o0.blk = some b → ¬ R' b := fun b hb => (Own.blk_lt (hr'.own 0 o1 h01) (hbk.trans hb)).2.2
      refine ⟨hr'.defers, (resM l).den, ?_, resM l, o1, R', rfl, hpost, hr'.r0, fun b hb => ?_, ?_, fun b hb => by rw [← hbk]; exact hb, Own.rebase (hr'.own 0 o1 h01) (fun b hb => (Own.blk_lt ho0 (hbk.symm.trans hb)).1), hr'.evo, hr'.inv⟩
      · unfold results
        rw [Sem.run_bind]
        show ((fn.results.mapM (resRun a'.tmps)).run P w').andThen _ = _
        rw [hmA _ hrun]
        simp only [Result.andThen_ok, Sem.run_pure, Result.ok.injEq, and_true]
        match l with
        | [s] => simp [resM, roB_den]
        | [] => simp [resM, tupL, SV.den]
        | s :: t :: rest =>
          simp only [resM, tupL, SV.den, List.map_cons, List.size_toArray, List.length_cons, List.length_map]
          rw [dif_neg (by omega)]
          congr 1
          apply Array.ext'
          apply List.ext_getElem?
          intro j
          simp only [List.getElem?_map]
          by_cases hj : j < rest.length + 1 + 1
          · rw [List.getElem?_range hj]
            have hj' : j < (s :: t :: rest).length := by simpa using hj
            have e1 : (s.den :: t.den :: rest.map SV.den) = (s :: t :: rest).map SV.den := rfl
            have e2 : (roB s :: roB t :: rest.map roB) = (s :: t :: rest).map roB := rfl
            rw [e1, e2, List.getElem?_map, getD_get hj' (d := default), Option.map_some, Option.map_some]
            congr 1
            show ((s :: t :: rest).getD j default).den = (((s :: t :: rest).map roB).getD j default).den
            rw [getD_map_lt hj', roB_den]
          · rw [List.getElem?_eq_none (by simp; omega), List.getElem?_eq_none (by simp; omega)]; rfl
      · rcases (hr'.rr b hb).2.2 with h | h | h
        · exact .inl h
        · exact .inr ⟨h, (hr'.rr b hb).1⟩
        · exact absurd hb (hnR b h)
      · match l, hall with
        | [s], hall => exact okM_ok (by simpa using hall) _ _
        | [], _ => intro j hj; simp at hj
        | s :: t :: rest, hall =>
          intro j hj
          have hj' : j < (s :: t :: rest).length := by simpa using hj
          show (((s :: t :: rest).map roB).getD j default).ok R' w'
          rw [getD_map_lt hj']
          exact okM_ok (List.all_eq_true.1 hall _ (getD_mem hj')) _ _
    rintro e a' w' ⟨st', hk, hr⟩
    cases e with
    | normal => exact fin a' w' st' hk hr
    | ret => exact fin a' w' st' hk hr
    | _ => exact hk.elim
def argM (id : Nat) : SV → SV
  | .os i a len cap => if i = id then .os 0 a len cap else .os i a len cap
  | .op i blk off => if i = id then .op 0 blk off else .op i blk off
  | .tt => .b true
  | .ff => .b false
  | s => s
theorem argM_den (id : Nat) (s : SV) : (argM id s).den = s.den := by
  cases s <;> first | rfl | (simp only [argM]; split <;> rfl)
theorem argM_ok {id : Nat} {s : SV} {R : Nat → Prop} {w : World} (h : s.ok R w) : (argM id s).ok R w := by
  cases s <;> first | exact h | trivial | (simp only [argM]; split <;> trivial)
def renM (id : Nat) : SV → SV
  | .os 0 a len cap => .os id a len cap
  | s => s
theorem renM_tupL (id : Nat) (l : List SV) : renM id (tupL l) = tupL l := rfl
theorem renM_i (id : Nat) (k : IntKind) (n : Int) : renM id (.i k n) = .i k n := rfl
theorem renM_b (id : Nat) (x : Bool) : renM id (.b x) = .b x := rfl
theorem renM_os (id : Nat) (a : Option Addr) (len cap : Nat) : renM id (.os 0 a len cap) = .os id a len cap := rfl
theorem resM_nil : resM [] = tupL [] := rfl
theorem resM_one (s : SV) : resM [s] = roB s := rfl
theorem resM_two (s t : SV) : resM [s, t] = tupL [roB s, roB t] := rfl
theorem roB_i (k : IntKind) (n : Int) : roB (.i k n) = .i k n := rfl
theorem roB_b (x : Bool) : roB (.b x) = .b x := rfl
theorem roB_tt : roB .tt = .b true := rfl
theorem roB_ff : roB .ff = .b false := rfl
theorem roB_os (id : Nat) (a : Option Addr) (len cap : Nat) : roB (.os id a len cap) = .os id a len cap := rfl
theorem renM_den (id : Nat) (s : SV) : (renM id s).den = s.den := by unfold renM; split <;> rfl
theorem renM_ok {id : Nat} {s : SV} {R : Nat → Prop} {w : World} (h : s.ok R w) : (renM id s).ok R w := by unfold renM; split <;> first | trivial | exact h
section
variable {P : Program} {F : Frm} {st : St} {k : St → Prop} {dst : Option Tmp} {ds : List (Option Tmp)} {rest : List Oper}
theorem callK_mut {f : FuncId} {args : List SV} {post : SV → Own → Prop} (id : Nat) {o0 : Own} (hid : st.own[id]? = some o0) (h : ContractM F P f (args.map (argM id)) o0 post)
    (hk : ∀ r o1, post r o1 → k (St.put { st with own := st.own.set id o1 } dst (renM id r))) : CallK P F f args st dst k := by
  intro R0 w0 ob R a w hr hargs
  refine ⟨h.enters, ?_⟩
  have hden : (args.map (argM id)).map SV.den = args.map SV.den := by
    rw [List.map_map]
    exact List.map_congr_left fun s _ => argM_den id s
  have hidl : id < st.own.length := (List.getElem?_eq_some_iff.1 hid).1
  have hc := h.calls R w ob hr.inv hr.obM hr.obw (hr.own id o0 hid) (fun s' hs' => by
    obtain ⟨s, hs, rfl⟩ := List.mem_map.1 hs'
    exact argM_ok (hargs s hs)) (fun b hb => ⟨(hr.rr b hb).1, (hr.rr b hb).2.1⟩)
  rw [hden] at hc
  refine hc.mono ?_
  rintro e w' ⟨r, o1, R', rfl, hpost, hRR, hR', hrok, hblk, ho1, hevo, hinv⟩
  refine ⟨renM id r, { st with own := st.own.set id o1 }, R', by rw [renM_den], hk r o1 hpost, renM_ok hrok, ?_, rfl⟩
  have hRb : ∀ b, R b → w'.heap[b]? = w.heap[b]? := fun b hb => hevo.block b (hr.rr b hb).1 (fun hm => by
    rcases hm with hm | hm
    · exact (hr.rr b hb).2.1 hm
    · exact (Own.blk_lt (hr.own id o0 hid) hm).2.2 hb)
  have hother : ∀ (i : Nat) (o : Own), id ≠ i → st.own[i]? = some o → ∀ b, o.blk = some b → w'.heap[b]? = w.heap[b]? := fun i o hne ho b hb => by
    obtain ⟨h1, h2, _⟩ := Own.blk_lt (hr.own i o ho) hb
    exact hevo.block b h2 (fun hm => by
      rcases hm with hm | hm
      · have := hr.ltM hm; omega
      · exact hr.dist id i o0 o hne hid ho b hm hb)
  refine ⟨hr.defers, fun t s ht => ⟨(hr.env t s ht).1, SV.ok_mono hRR hRb s (hr.env t s ht).2⟩, hr.size, ?_, ?_, ?_, hinv, hr.obM, ?_, Nat.le_trans hr.obw hevo.size, ?_, fun b hb => hRR b (hr.r0 b hb)⟩
  · intro i x hx
    rw [List.getElem?_set] at hx
    split at hx
    · rename_i e
      subst e
      simp only [hidl, if_true, Option.some.injEq] at hx
      subst hx
      exact ho1
    · rename_i hne
      refine Own.ok_keep (hr.own i x hx) hRR (fun b hb hb' => ?_) hRb (hother i x hne hx)
      rcases hR' b hb' with h9 | h9
      · exact h9
      · have := (Own.blk_lt (hr.own i x hx) hb).2.1; omega
  · intro i j x y hij hx hy b hb1 hb2
    rw [List.getElem?_set] at hx hy
    split at hx <;> split at hy
    · omega
    · rename_i e hne
      subst e
      simp only [hidl, if_true, Option.some.injEq] at hx
      subst hx
      exact hr.dist id j o0 y hij hid hy b (hblk b hb1) hb2
    · rename_i hne e
      subst e
      simp only [hidl, if_true, Option.some.injEq] at hy
      subst hy
      exact hr.dist i id x o0 hij hx hid b hb1 (hblk b hb2)
    · exact hr.dist i j x y hij hx hy b hb1 hb2
  · exact ⟨hevo.os.trans hr.evo.os, hevo.tape.trans hr.evo.tape, hevo.output.trans hr.evo.output, Nat.le_trans hr.evo.size hevo.size, fun b hb hm => (hevo.block b (Nat.lt_of_lt_of_le hb hr.evo.size) (fun h9 => by
      rcases h9 with h9 | h9
      · exact hm (.inl h9)
      · rcases hr.gb id o0 hid b h9 with h8 | h8
        · omega
        · exact hm (.inr h8))).trans (hr.evo.block b hb hm)⟩
  · exact gb_set (m := w0.w.heap.size) (Nat.le_refl _) hr.gb hid fun b hb => .inl (hblk b hb)
  · intro b hb
    rcases hR' b hb with h9 | ⟨h9, h10⟩
    · obtain ⟨g1, g2, g3⟩ := hr.rr b h9
      exact ⟨Nat.lt_of_lt_of_le g1 hevo.size, g2, g3⟩
    · have := hr.obw
      have := hr.evo.size
      exact ⟨h10, fun hm => by have := hr.ltM hm; omega, .inr (.inl (by omega))⟩
theorem wcall_mut {F : Frm} {n : Nat} {env : List (Nat × SV)} {own : List Own} {f : FuncId} {args args' : List SV} {post : SV → Own → Prop} (id : Nat) {o0 : Own} (h : ContractM F P f args' o0 post) (hid : own[id]? = some o0) (ha : args.map (argM id) = args')
    (hk : ∀ r o1, post r o1 → WO P F ds rest (St.put ⟨n, env, own.set id o1⟩ dst (renM id r)) k) : WCall P F ds rest dst ⟨n, env, own⟩ f (some args) k := by
  unfold WCall
  exact callK_mut (st := ⟨n, env, own⟩) (k := fun st' => WO P F ds rest st' k) id hid (by rw [ha]; exact h) hk
end
end Eng
end Go.Proofs.YtpkmnggfomllhaaDoor
