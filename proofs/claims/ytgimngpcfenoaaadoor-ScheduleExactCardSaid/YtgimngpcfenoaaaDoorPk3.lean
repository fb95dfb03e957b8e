/- The evaluator, part P: functions that give back a new row of their own. -/
import Derived.Test.YtgimngpcfenoaaaDoorPk2
import Derived.Laws.BitsLemmas
import Derived.Sort.Statements
import Derived.RangeFuncRecord
import Derived.TacticsIn
import Derived.RangeFuncLeaves
import Derived.Sort.LoopGhostIn
set_option linter.unusedSimpArgs false
set_option linter.unusedVariables false
namespace Go.Proofs.YtgimngpcfenoaaaDoor
namespace Eng
structure ContractN (F : Frm) (P : Program) (f : FuncId) (args : List SV) (post : Own → Prop) : Prop where
  enters : ∀ vs w, (callFunc f vs).run P w = .ok (.enter f vs) w
  calls : ∀ (R : Nat → Prop) (w : World), F.Inv w → (∀ s ∈ args, s.ok R w) → (∀ b, R b → b < w.heap.size ∧ ¬ F.M b) →
    Calls P f (args.map SV.den).toArray w fun e w' => ∃ (a : Option Addr) (ty len cap sz : Nat) (rd : Nat → Nat → SV) (R' : Nat → Prop), e = .returned (.slice a len cap) ∧ post (.row a ty len cap sz rd) ∧ (∀ b, R b → R' b) ∧
      (∀ b, R' b → R b ∨ (w.heap.size ≤ b ∧ b < w'.heap.size)) ∧ (Own.row a ty len cap sz rd).ok R' w.heap.size w' ∧ Evo F.M w w' ∧ F.Inv w'
theorem ContractN.mono {F : Frm} {P : Program} {f : FuncId} {args : List SV} {post post' : Own → Prop} (h : ContractN F P f args post) (hp : ∀ o, post o → post' o) : ContractN F P f args post' :=
  ⟨h.enters, fun R w h1 h2 h3 => (h.calls R w h1 h2 h3).mono fun e w' ⟨a, ty, len, cap, sz, rd, R', e1, e2, e3⟩ => ⟨a, ty, len, cap, sz, rd, R', e1, hp _ e2, e3⟩⟩
def newRow (own : List Own) (post : Own → Prop) : SV → Prop
  | .os id a len cap => (match own[id]? with
    | some (.row a1 ty len1 cap1 sz rd) => (a1 = a ∧ len1 = len ∧ cap1 = cap) ∧ post (.row a1 ty len1 cap1 sz rd)
    | _ => False)
  | _ => False
def retNK (st : St) (post : Own → Prop) : List SV → Prop
  | [s] => newRow st.own post s
  | _ => False
def retN (P : Program) (rs : List ResultVar) (post : Own → Prop) : Exit → St → Prop
  | .normal, st => resHolds P st rs (retNK st post)
  | .ret, st => resHolds P st rs (retNK st post)
  | _, _ => False
theorem contractN_of {P : Program} {F : Frm} {f : FuncId} {fn : Func} {c : Code} {args : List SV} {post : Own → Prop} (hf : P.funcs[f]? = some fn) (hb : fn.body = some c) (hname : (fn.name == "runtime.NumGoroutine") = false)
    (h : Sat P F c ⟨fn.ntmps, argEnv 0 args, []⟩ (retN P fn.results.toList post)) : ContractN F P f args post := by
  refine ⟨fun vs w => ?_, fun R w hinv hargs hR => ?_⟩
  · have hn : ¬ fn.name = "runtime.NumGoroutine" := by simpa using hname
    simp [callFunc, hf, hn, hb]
  · refine calls_of_wp hf hb ?_
    have hrel : RelR F R ⟨w, fun _ => False⟩ w.heap.size R ⟨fn.ntmps, argEnv 0 args, []⟩ { tmps := (args.map SV.den).toArray ++ Array.replicate (fn.ntmps - (args.map SV.den).toArray.size) undef, defers := [] } w := by
      refine ⟨rfl, ?_, ?_, fun i o ho => by simp at ho, fun i j o o' _ ho => by simp at ho, Evo.refl _ _, hinv, fun b hb => F.lt w b hinv hb, fun i o ho => by simp at ho, Nat.le_refl _, fun b hb => ⟨(hR b hb).1, (hR b hb).2, .inl hb⟩, fun _ h => h⟩
      · intro t s ht
        obtain ⟨j, rfl, hj⟩ := look_argEnv args 0 t s ht
        have hlt := (List.getElem?_eq_some_iff.1 hj).1
        refine ⟨?_, hargs s (List.mem_of_getElem? hj)⟩
        rw [Nat.zero_add, Array.getElem?_append_left (by simpa using hlt)]
        simp [hj]
      · simp; omega
    refine wp_mono (h R ⟨w, fun _ => False⟩ _ w ⟨_, R, hrel⟩) ?_
    have fin : ∀ a' w' st', resHolds P st' fn.results.toList (retNK st' post) → Rel F R ⟨w, fun _ => False⟩ st' a' w' → a'.defers = [] ∧ ∃ v, (results fn a'.tmps).run P w' = .ok v w' ∧
        (fun e w' => ∃ (a : Option Addr) (ty len cap sz : Nat) (rd : Nat → Nat → SV) (R' : Nat → Prop), e = Ending.returned (.slice a len cap) ∧ post (.row a ty len cap sz rd) ∧ (∀ b, R b → R' b) ∧ (∀ b, R' b → R b ∨ (w.heap.size ≤ b ∧ b < w'.heap.size)) ∧ (Own.row a ty len cap sz rd).ok R' w.heap.size w' ∧ Evo F.M w w' ∧ F.Inv w') (.returned v) w' := by
      rintro a' w' st' hres ⟨ob', R', hr'⟩
      obtain ⟨l, hpost, hlok, hrun⟩ := resHolds_ok hr' hres
      have hmA : ∀ (g : ResultVar → Sem Value), (fn.results.toList.mapM g).run P w' = .ok (l.map SV.den) w' → (fn.results.mapM g).run P w' = .ok (l.map SV.den).toArray w' := by
        intro g hg
        rw [Array.mapM_eq_mapM_toList]
        simp only [Sem.run_map, hg, Result.andThen_ok]
      obtain ⟨s, rfl, hp2⟩ : ∃ s, l = [s] ∧ newRow st'.own post s := by
        match l, hpost with
        | [s], h => exact ⟨s, rfl, h⟩
      obtain ⟨id, a, len, cap, rfl⟩ : ∃ id a len cap, s = .os id a len cap := by
        cases s <;> first | exact hp2.elim | exact ⟨_, _, _, _, rfl⟩
      clear hpost
      unfold newRow at hp2
      cases ho : st'.own[id]? with
      | none => simp only [ho] at hp2
      | some o =>
        simp only [ho] at hp2
        cases o with
        | row a1 ty len1 cap1 sz rd =>
          obtain ⟨⟨rfl, rfl, rfl⟩, hpost⟩ := hp2
          refine ⟨hr'.defers, .slice a1 len1 cap1, ?_, a1, ty, len1, cap1, sz, rd, R', rfl, hpost, hr'.r0, fun b hb => ?_, Own.rebase (hr'.own id _ ho) (fun b hb => ?_), ⟨hr'.evo.os, hr'.evo.tape, hr'.evo.output, hr'.evo.size, fun b hb hm => hr'.evo.block b hb (fun h => h.elim hm (fun h => h))⟩, hr'.inv⟩
          · unfold results
            rw [Sem.run_bind]
            show ((fn.results.mapM (resRun a'.tmps)).run P w').andThen _ = _
            rw [hmA _ hrun]
            simp [SV.den]
          · rcases (hr'.rr b hb).2.2 with h | h | h
            · exact .inl h
            · exact .inr ⟨h, (hr'.rr b hb).1⟩
            · exact h.elim
          · rcases hr'.gb id _ ho b hb with h | h
            · exact h
            · exact h.elim
        | _ => exact hp2.elim
    rintro e a' w' ⟨st', hk, hr'⟩
    cases e with
    | normal => exact fin a' w' st' hk hr'
    | ret => exact fin a' w' st' hk hr'
    | _ => exact hk.elim
section
variable {P : Program} {F : Frm} {st : St} {k : St → Prop} {dst : Option Tmp} {ds : List (Option Tmp)} {rest : List Oper}
variable {R0 R : Nat → Prop} {w0 : Org} {w : World} {ob : Nat} {a : Act}
theorem RelR.calledN (h : RelR F R0 w0 ob R st a w) {w' : World} {R' : Nat → Prop} {o1 : Own} (he : Evo F.M w w') (hi : F.Inv w') (hRR : ∀ b, R b → R' b) (hR' : ∀ b, R' b → R b ∨ (w.heap.size ≤ b ∧ b < w'.heap.size)) (ho1 : o1.ok R' w.heap.size w') :
    RelR F R0 w0 ob R' { st with own := st.own ++ [o1] } a w' := by
  have hRb : ∀ b, R b → w'.heap[b]? = w.heap[b]? := fun b hr => he.block b (h.rr b hr).1 (h.rr b hr).2.1
  have hown : ∀ (i : Nat) (o : Own), st.own[i]? = some o → ∀ b, o.blk = some b → w'.heap[b]? = w.heap[b]? := fun i o ho b hb => by
    obtain ⟨h1, h2, _⟩ := Own.blk_lt (h.own i o ho) hb
    exact he.block b h2 (fun hm => by have := h.ltM hm; omega)
  have hobw := h.obw
  have hsz := h.evo.size
  refine ⟨h.defers, fun t s ht => ⟨(h.env t s ht).1, SV.ok_mono hRR hRb s (h.env t s ht).2⟩, h.size, ?_, ?_, h.evo.trans ⟨he.os, he.tape, he.output, he.size, fun b hb hm => he.block b hb (fun h => hm (.inl h))⟩, hi, h.obM, ?_, Nat.le_trans h.obw he.size, ?_, fun b hb => hRR b (h.r0 b hb)⟩
  · intro i o ho
    rcases get_append_one ho with ho | ⟨_, rfl⟩
    · refine Own.ok_keep (h.own i o ho) hRR (fun b hb hr => ?_) hRb (hown i o ho)
      rcases hR' b hr with hr | ⟨hr, _⟩
      · exact hr
      · have := (Own.blk_lt (h.own i o ho) hb).2.1
        omega
    · exact Own.rebase ho1 (fun b hb => by have := (Own.blk_lt ho1 hb).1; omega)
  · intro i j o o' hij ho ho' b hb hb'
    rcases get_append_one ho with p1 | ⟨hi', rfl⟩ <;> rcases get_append_one ho' with p2 | ⟨hj', rfl⟩
    · exact h.dist i j o o' hij p1 p2 b hb hb'
    · have g1 := (Own.blk_lt (h.own i o p1) hb).2.1
      have g2 := (Own.blk_lt ho1 hb').1
      omega
    · have g1 := (Own.blk_lt (h.own j o' p2) hb').2.1
      have g2 := (Own.blk_lt ho1 hb).1
      omega
    · omega
  · intro i o ho b hb
    rcases get_append_one ho with ho | ⟨_, rfl⟩
    · exact h.gb i o ho b hb
    · have := (Own.blk_lt ho1 hb).1
      exact .inl (by omega)
  · intro b hb
    rcases hR' b hb with hb | ⟨hb1, hb2⟩
    · obtain ⟨g1, g2, g3⟩ := h.rr b hb
      exact ⟨Nat.lt_of_lt_of_le g1 he.size, g2, g3⟩
    · exact ⟨hb2, fun hm => by have := h.ltM hm; omega, .inr (.inl (by omega))⟩
theorem roArgS_all {st' : St} {R1 : Nat → Prop} (args : List SV) (hst : st'.own = frz st.own args) (hr1 : RelR F R0 w0 ob R1 { st with own := frz st.own args } a w) (hargs1 : ∀ s ∈ args, s.ok R1 w) : ∀ s ∈ args.map (roArgS (frz st.own args)), s.ok R1 w := by
  intro s' hs'
  obtain ⟨s, hs, rfl⟩ := List.mem_map.1 hs'
  have key : (roSl (Eng.frz st.own args) s).ok R1 w → (roArgS (Eng.frz st.own args) s).ok R1 w := fun h => by cases s <;> first | trivial | exact h
  apply key
  unfold roSl
  cases hany : asAny (Eng.frz st.own args) s with
  | none => exact hargs1 s hs
  | some p =>
    obtain ⟨a', len, cap, sz, rd⟩ := p
    have rd_ok : ∀ {s : SV}, asRead (Eng.frz st.own args) s = some (a', len, cap, sz, rd) → s.ok R1 w → (SV.sl a' len cap sz rd).ok R1 w := fun h1 h2 => (asRead_ok (st := { st with own := Eng.frz st.own args }) h1 hr1.own h2).2
    unfold asAny at hany
    split at hany
    · rename_i id a1 len1 cap1
      split at hany
      · rename_i a2 e2 len2 cap2 sz2 rd2 ho2
        exact absurd rfl ((frz_row args ho2).2 _ hs a1 len1 cap1)
      · exact rd_ok hany (hargs1 _ hs)
    · exact rd_ok hany (hargs1 _ hs)
theorem callK_new {f : FuncId} {args : List SV} {post : Own → Prop} (h : ContractN F P f (args.map (roArgS (frz st.own args))) post)
    (hk : ∀ (a : Option Addr) (ty len cap sz : Nat) (rd : Nat → Nat → SV), post (.row a ty len cap sz rd) → k (St.put { st with own := frz st.own args ++ [.row a ty len cap sz rd] } dst (.os (frz st.own args).length a len cap))) : CallK P F f args st dst k := by
  intro R0 w0 ob R a w hr hargs
  refine ⟨h.enters, ?_⟩
  obtain ⟨R1, hm1, hr1⟩ := hr.frz args
  have hargs1 : ∀ s ∈ args, s.ok R1 w := fun s hs => SV.ok_mono hm1 (fun _ _ => rfl) s (hargs s hs)
  have hden : (args.map (roArgS (Eng.frz st.own args))).map SV.den = args.map SV.den := by
    rw [List.map_map]
    exact List.map_congr_left fun s hs => (roArgS_ok hr1 (hargs1 s hs)).1
  have hok := roArgS_all (st' := { st with own := frz st.own args }) args rfl hr1 hargs1
  have hc := h.calls R1 w hr1.inv hok (fun b hb => ⟨(hr1.rr b hb).1, (hr1.rr b hb).2.1⟩)
  rw [hden] at hc
  refine hc.mono ?_
  rintro e w' ⟨ad, ty, len, cap, sz, rd, R', rfl, hpost, hRR, hR', ho1, hevo, hinv⟩
  exact ⟨.os (frz st.own args).length ad len cap, _, R', rfl, hk ad ty len cap sz rd hpost, trivial, hr1.calledN hevo hinv hRR hR' ho1, rfl⟩
theorem wcall_new {f : FuncId} {args args' : List SV} {post : Own → Prop} {st : St} {own' : List Own} (h : ContractN F P f args' post) (ho : frz st.own args = own') (ha : args.map (roArgS own') = args')
    (hk : ∀ (a : Option Addr) (ty len cap sz : Nat) (rd : Nat → Nat → SV), post (.row a ty len cap sz rd) → WO P F ds rest (St.put { st with own := own' ++ [.row a ty len cap sz rd] } dst (.os own'.length a len cap)) k) : WCall P F ds rest dst st f (some args) k := by
  subst ho
  unfold WCall
  exact callK_new (k := fun st' => WO P F ds rest st' k) (by rw [ha]; exact h) hk
end
end Eng
end Go.Proofs.YtgimngpcfenoaaaDoor

/- The evaluator, part R: large regions that draw their order: what may come when, reckoned by numbers. -/
set_option linter.unusedSimpArgs false
set_option linter.unusedVariables false
namespace Go.Proofs.YtgimngpcfenoaaaDoor
namespace Eng
structure Row where
  need : Nat
  dst : Nat
  looks : Nat
  kind : Nat
  deriving DecidableEq
def maskL : List Nat → Nat
  | [] => 0
  | t :: l => (1 <<< t) ||| maskL l
theorem maskL_bit : ∀ (l : List Nat) (t : Nat), (maskL l).testBit t = l.contains t
  | [], t => by simp [maskL]
  | u :: l, t => by
    rw [maskL, Nat.testBit_or, maskL_bit l t, List.contains_cons]
    congr 1
    rw [Nat.one_shiftLeft, Nat.testBit_two_pow]
    by_cases h : u = t
    · subst h; simp
    · simp [h, Ne.symm h]
def kindB (o : Oper) : Nat := bif wless o.op then 0 else bif loadOp o.op then 1 else 2
def dstOf (o : Oper) : Nat := match o.dst with | some d => d + 1 | none => 0
def rowOf (md : Region.Mode) (ops : Array Oper) (o : Oper) : Row := ⟨maskL ((o.after.toList.filter (Region.binds md)).map (·.on)), dstOf o, maskL (o.looksAt ops), kindB o⟩
def tabOk (md : Region.Mode) (ops : Array Oper) (n : Nat) : List Oper → List Row → Bool
  | [], [] => true
  | o :: l, r :: T => Nat.beq (maskL ((o.after.toList.filter (Region.binds md)).map (·.on))) r.need && Nat.beq (dstOf o) r.dst && Nat.beq (maskL (o.looksAt ops)) r.looks && Nat.beq (kindB o) r.kind && Nat.blt r.need (2 ^ n) && tabOk md ops n l T
  | _, _ => false
theorem tabOk_get {md : Region.Mode} {ops : Array Oper} {n : Nat} : ∀ (l : List Oper) (T : List Row), tabOk md ops n l T = true → T.length = l.length ∧ ∀ (j : Nat) (o : Oper), l[j]? = some o → T[j]? = some (rowOf md ops o) ∧ (rowOf md ops o).need < 2 ^ n
  | [], [], _ => ⟨rfl, fun j o h => by simp at h⟩
  | [], _ :: _, h => by simp [tabOk] at h
  | _ :: _, [], h => by simp [tabOk] at h
  | o :: l, r :: T, h => by
    simp only [tabOk, Bool.and_eq_true, Nat.beq_eq, Nat.blt_eq] at h
    obtain ⟨⟨⟨⟨⟨h1, h2⟩, h3⟩, h4⟩, h5⟩, h6⟩ := h
    obtain ⟨g1, g2⟩ := tabOk_get l T h6
    refine ⟨by simp [g1], fun j o' hj => ?_⟩
    cases j with
    | zero =>
      simp only [List.getElem?_cons_zero, Option.some.injEq] at hj ⊢
      subst hj
      have e : r = rowOf md ops o := by cases r; simp only at *; subst h1; subst h2; subst h3; subst h4; rfl
      rw [← e]
      exact ⟨rfl, h5⟩
    | succ j =>
      simp only [List.getElem?_cons_succ] at hj ⊢
      exact g2 j o' hj
def lst (n mask : Nat) : Array Bool := ((List.range n).map mask.testBit).toArray
theorem lst_getD (n mask j : Nat) (d : Bool) : (lst n mask).getD j d = if j < n then mask.testBit j else d := by
  unfold lst
  by_cases h : j < n
  · simp [Array.getD, h]
  · simp [Array.getD, h]
theorem lst_set {n mask k : Nat} : (lst n mask).setIfInBounds k true = lst n (mask ||| (1 <<< k)) := by
  apply Array.ext'
  unfold lst
  simp only [List.setIfInBounds_toArray]
  apply List.ext_getElem?
  intro j
  rw [List.getElem?_set]
  simp only [List.length_map, List.length_range, List.getElem?_map]
  by_cases hj : j < n
  · rw [List.getElem?_range hj]
    by_cases e : k = j
    · subst e
      rw [if_pos rfl, if_pos hj, Option.map_some, Nat.testBit_or, Nat.one_shiftLeft, Nat.testBit_two_pow]
      simp
    · rw [if_neg e, Option.map_some, Option.map_some, Nat.testBit_or, Nat.one_shiftLeft, Nat.testBit_two_pow]
      simp [e]
  · rw [List.getElem?_eq_none (by simp; omega)]
    split
    · subst_vars; simp [hj]
    · rfl
theorem lst_zero (n : Nat) : lst n 0 = Array.replicate n false := by
  apply Array.ext'
  unfold lst
  apply List.ext_getElem?
  intro j
  simp only [List.getElem?_map, Array.toList_replicate, List.getElem?_replicate]
  by_cases hj : j < n
  · rw [List.getElem?_range hj]; simp [hj]
  · rw [List.getElem?_eq_none (by simp; omega)]; simp [hj]
def allI (f : Nat → Row → Bool) : Nat → List Row → Bool
  | _, [] => true
  | i, r :: T => f i r && allI f (i + 1) T
theorem allI_get {f : Nat → Row → Bool} : ∀ (T : List Row) (i : Nat), allI f i T = true → ∀ (j : Nat) (r : Row), T[j]? = some r → f (i + j) r = true
  | [], i, h, j, r, hj => by simp at hj
  | r :: T, i, h, j, r', hj => by
    simp only [allI, Bool.and_eq_true] at h
    cases j with
    | zero => simp only [List.getElem?_cons_zero, Option.some.injEq] at hj; subst hj; exact h.1
    | succ j =>
      simp only [List.getElem?_cons_succ] at hj
      have := allI_get T (i + 1) h.2 j r' hj
      rwa [Nat.add_right_comm, Nat.add_assoc] at this
def readyR (mask i : Nat) (r : Row) : Bool := !mask.testBit i && Nat.beq (r.need &&& mask) r.need
def apartR (x y : Row) : Bool := (Nat.beq x.dst 0 || (!y.looks.testBit (x.dst - 1) && !Nat.beq y.dst x.dst)) && (Nat.beq y.dst 0 || !x.looks.testBit (y.dst - 1))
def freeR (T : List Row) (mask k : Nat) (rk : Row) : Bool := allI (fun j r => Nat.beq j k || mask.testBit j || r.need.testBit k || apartR rk r) 0 T
def blkR (k : Nat) : Nat → List Row → Nat → Nat
  | _, [], acc => acc
  | j, r :: T, acc => blkR k (j + 1) T (bif Nat.beq j k || !Nat.beq (r.need &&& acc) 0 then acc ||| (1 <<< j) else acc)
def blkC (T : List Row) (k B mask W : Nat) : Bool :=
  allI (fun j r => (!B.testBit j || ((Nat.beq j k || !Nat.beq (r.need &&& B) 0) && !mask.testBit j)) && (Nat.beq j k || mask.testBit j || B.testBit j || W.testBit j)) 0 T && Nat.blt B (2 ^ T.length)
def chkX (T : List Row) (W : Nat) : List Nat → Nat → (Nat → Bool) → Bool
  | [], mask, f => f mask
  | k :: r, mask, f => (match T[k]? with | some rk => readyR mask k rk && freeR T mask k rk && W.testBit k && (Nat.beq rk.kind 0 || (Nat.beq rk.kind 1 && blkC T k (blkR k 0 T 0) mask W)) | none => false) && chkX T W r (mask ||| (1 <<< k)) f
def chkB (T : List Row) : List (Nat × Bool) → Nat → Bool
  | [], mask => allI (fun j r => !readyR mask j r) 0 T
  | (k, false) :: r, mask => (match T[k]? with | some rk => readyR mask k rk | none => false) && allI (fun j r => Nat.beq j k || !readyR mask j r) 0 T && chkB T r (mask ||| (1 <<< k))
  | (k, true) :: r, mask => (match T[k]? with | some rk => readyR mask k rk && Nat.beq rk.kind 0 && freeR T mask k rk | none => false) && chkB T r (mask ||| (1 <<< k))
def chkR (T : List Row) (X : List Nat) (B : List (Nat × Bool)) (ws : List Nat) : Bool := chkX T (maskL X ||| maskL ws) X 0 fun mask => chkB T B mask
def keepC (l : List Oper) (T : List Row) (X : List Nat) (B : List (Nat × Bool)) (ws : List Nat) : Bool := Region.noSelect l.toArray && tabOk .any l.toArray l.length l T && chkR T X B ws && Nat.beq (X.length + B.length) l.length
def BT.seq : List (Nat × Bool) → BT
  | [] => .done
  | (i, false) :: r => .one i (BT.seq r)
  | (i, true) :: r => .free i (BT.seq r)
theorem btseq_nil : BT.seq [] = .done := rfl
theorem btseq_cons (i : Nat) (r : List (Nat × Bool)) : BT.seq ((i, false) :: r) = .one i (BT.seq r) := rfl
theorem btseq_free (i : Nat) (r : List (Nat × Bool)) : BT.seq ((i, true) :: r) = .free i (BT.seq r) := rfl
section
variable {l : List Oper} {T : List Row} {mask : Nat}
theorem ready_iff (ht : tabOk .any l.toArray l.length l T = true) {j : Nat} {r : Row} (hr : T[j]? = some r) : (j ∈ Region.ready .any l.toArray (lst l.length mask)) ↔ readyR mask j r = true := by
  obtain ⟨hlen, hget⟩ := tabOk_get l T ht
  have hj : j < l.length := by rw [← hlen]; exact (List.getElem?_eq_some_iff.1 hr).1
  obtain ⟨h1, h2⟩ := hget j l[j] (by simp [hj])
  rw [hr, Option.some.injEq] at h1
  subst h1
  rw [mem_ready, lst_getD, if_pos hj]
  unfold readyR
  simp only [Bool.and_eq_true, Bool.not_eq_true', Nat.beq_eq]
  refine and_congr Iff.rfl ?_
  have hbit : ∀ t, (rowOf .any l.toArray l[j]).need.testBit t = true ↔ ∃ e ∈ l[j].after, Region.binds .any e = true ∧ e.on = t := by
    intro t
    simp only [rowOf, maskL_bit, List.contains_iff_mem, List.mem_map, List.mem_filter, Array.mem_toList_iff]
    constructor
    · rintro ⟨e, ⟨h1, h2⟩, h3⟩; exact ⟨e, h1, h2, h3⟩
    · rintro ⟨e, h1, h2, h3⟩; exact ⟨e, ⟨h1, h2⟩, h3⟩
  have hlt : ∀ t, (rowOf .any l.toArray l[j]).need.testBit t = true → t < l.length := by
    intro t ht
    rcases Nat.lt_or_ge t l.length with h | h
    · exact h
    · have := Nat.testBit_lt_two_pow (Nat.lt_of_lt_of_le h2 (Nat.pow_le_pow_right (by omega) h))
      rw [this] at ht; cases ht
  constructor
  · rintro ⟨o, ho, hall⟩
    have ho' : o = l[j] := by simpa [hj] using ho.symm
    subst ho'
    apply Nat.eq_of_testBit_eq
    intro t
    rw [Nat.testBit_and]
    cases hb : (rowOf .any l.toArray l[j]).need.testBit t with
    | false => rfl
    | true =>
      obtain ⟨e, he, hbd, hon⟩ := (hbit t).1 hb
      have := hall e he hbd
      rw [lst_getD, hon, if_pos (hlt t hb)] at this
      rw [this]; rfl
  · intro h
    refine ⟨l[j], by simp [hj], fun e he hbd => ?_⟩
    have hb := (hbit e.on).2 ⟨e, he, hbd, rfl⟩
    have h9 : ((rowOf .any l.toArray l[j]).need &&& mask).testBit e.on = true := by rw [h]; exact hb
    rw [Nat.testBit_and, hb, Bool.true_and] at h9
    rw [lst_getD, if_pos (hlt _ hb)]
    exact h9
theorem apart_of {x y : Oper} {ops : Array Oper} (h : apartR (rowOf .any ops x) (rowOf .any ops y) = true) : x.apart ops y = true := by
  unfold apartR rowOf dstOf at h
  unfold Oper.apart
  simp only [maskL_bit, Bool.and_eq_true, Bool.or_eq_true, Nat.beq_eq, Bool.not_eq_true'] at h
  obtain ⟨h1, h2⟩ := h
  simp only [Bool.and_eq_true]
  refine ⟨?_, ?_⟩
  · cases hx : x.dst with
    | none => rfl
    | some d =>
      rw [hx] at h1
      simp only [Nat.add_sub_cancel] at h1
      rcases h1 with h1 | ⟨h1, h3⟩
      · omega
      · simp only [Bool.and_eq_true, Bool.not_eq_true', bne_iff_ne]
        refine ⟨h1, fun e => ?_⟩
        rw [e] at h3
        simp at h3
  · cases hy : y.dst with
    | none => rfl
    | some d =>
      rw [hy] at h2
      simp only [Nat.add_sub_cancel] at h2
      rcases h2 with h2 | h2
      · omega
      · simpa using h2
theorem row_at (ht : tabOk .any l.toArray l.length l T = true) {j : Nat} {o : Oper} (ho : l.toArray[j]? = some o) : T[j]? = some (rowOf .any l.toArray o) := ((tabOk_get l T ht).2 j o (by simpa using ho)).1
theorem need_bit {ops : Array Oper} {o : Oper} {t : Nat} : (rowOf .any ops o).need.testBit t = true ↔ ∃ e ∈ o.after, Region.binds .any e = true ∧ e.on = t := by
  simp only [rowOf, maskL_bit, List.contains_iff_mem, List.mem_map, List.mem_filter, Array.mem_toList_iff]
  constructor
  · rintro ⟨e, ⟨h1, h2⟩, h3⟩; exact ⟨e, h1, h2, h3⟩
  · rintro ⟨e, h1, h2, h3⟩; exact ⟨e, ⟨h1, h2⟩, h3⟩
theorem free_of (ht : tabOk .any l.toArray l.length l T = true) {k : Nat} {o : Oper} (ho : l.toArray[k]? = some o) (h : freeR T mask k (rowOf .any l.toArray o) = true) : Region.free .any l.toArray (lst l.length mask) k = true := by
  unfold Region.free
  rw [ho]
  refine List.all_eq_true.2 fun j hj => ?_
  have hj' : j < l.length := by simpa using hj
  have hoj : l.toArray[j]? = some l[j] := by simp [hj']
  have h1 := allI_get T 0 h j _ (row_at ht hoj)
  rw [Nat.zero_add] at h1
  simp only [Bool.or_eq_true, Nat.beq_eq] at h1
  simp only [hoj, Bool.or_eq_true, beq_iff_eq, lst_getD, if_pos hj']
  rcases h1 with ((h1 | h1) | h1) | h1
  · exact .inl (.inl h1)
  · exact .inl (.inr h1)
  · obtain ⟨e, he, hb, hon⟩ := need_bit.1 h1
    refine .inr (.inl (Array.any_eq_true'.2 ⟨e, he, by simp [hb, hon]⟩))
  · exact .inr (.inr (apart_of h1))
theorem op_at (ht : tabOk .any l.toArray l.length l T = true) {k : Nat} {r : Row} (hr : T[k]? = some r) : ∃ o, l.toArray[k]? = some o ∧ r = rowOf .any l.toArray o := by
  obtain ⟨hlen, hget⟩ := tabOk_get l T ht
  have hj : k < l.length := by rw [← hlen]; exact (List.getElem?_eq_some_iff.1 hr).1
  refine ⟨l[k], by simp [hj], ?_⟩
  have := (hget k l[k] (by simp [hj])).1
  rw [hr, Option.some.injEq] at this
  exact this
theorem filter_one {p : Nat → Bool} {k : Nat} : ∀ n, k < n → (∀ j, j < n → (p j = true ↔ j = k)) → (List.range n).filter p = [k]
  | 0, h, _ => by omega
  | n + 1, h, hp => by
    rw [List.range_succ, List.filter_append]
    by_cases e : k = n
    · subst e
      have : (List.range k).filter p = [] := List.filter_eq_nil_iff.2 fun j hj => fun h9 => by
        have hj' : j < k := by simpa using hj
        have := (hp j (by omega)).1 h9
        omega
      rw [this]
      simp [(hp k (by omega)).2 rfl]
    · rw [filter_one n (by omega) fun j hj => hp j (by omega)]
      have : p n = false := by
        cases h9 : p n with
        | false => rfl
        | true => have := (hp n (by omega)).1 h9; omega
      simp [this]
theorem ready_one (ht : tabOk .any l.toArray l.length l T = true) {k : Nat} {rk : Row} (hk : T[k]? = some rk) (h1 : readyR mask k rk = true) (h2 : allI (fun j r => Nat.beq j k || !readyR mask j r) 0 T = true) : Region.ready .any l.toArray (lst l.length mask) = [k] := by
  obtain ⟨hlen, _⟩ := tabOk_get l T ht
  have hk' : k < l.length := by rw [← hlen]; exact (List.getElem?_eq_some_iff.1 hk).1
  have hm : ∀ j, j < l.length → (j ∈ Region.ready .any l.toArray (lst l.length mask) ↔ j = k) := by
    intro j hj
    have hrj : T[j]? = some T[j] := by simp [hlen, hj]
    rw [ready_iff ht hrj]
    constructor
    · intro h9
      have := allI_get T 0 h2 j _ hrj
      rw [Nat.zero_add] at this
      simp only [Bool.or_eq_true, Nat.beq_eq, Bool.not_eq_true'] at this
      rcases this with this | this
      · exact this
      · rw [this] at h9; cases h9
    · rintro rfl
      rw [hk] at hrj
      simp only [Option.some.injEq] at hrj
      rw [← hrj]
      exact h1
  unfold Region.ready at hm ⊢
  refine filter_one _ (by simpa using hk') fun j hj => ?_
  have := hm j (by simpa using hj)
  rw [List.mem_filter] at this
  simp only [List.mem_range] at this
  constructor
  · intro h9; exact this.1 ⟨hj, h9⟩
  · intro h9; exact (this.2 h9).2
theorem ready_none (ht : tabOk .any l.toArray l.length l T = true) (h2 : allI (fun j r => !readyR mask j r) 0 T = true) : Region.ready .any l.toArray (lst l.length mask) = [] := by
  obtain ⟨hlen, _⟩ := tabOk_get l T ht
  refine List.eq_nil_iff_forall_not_mem.2 fun j hj => ?_
  have hj' : j < l.length := by
    obtain ⟨_, o, ho, _⟩ := mem_ready.1 hj
    simpa using (Array.getElem?_eq_some_iff.1 ho).1
  have hrj : T[j]? = some T[j] := by simp [hlen, hj']
  have := allI_get T 0 h2 j _ hrj
  rw [Nat.zero_add, (ready_iff ht hrj).1 hj] at this
  cases this
theorem kind0 {o : Oper} (h : kindB o = 0) : wless o.op = true := by
  unfold kindB at h
  cases hw : wless o.op with
  | true => rfl
  | false =>
    rw [hw] at h
    cases hl : loadOp o.op <;> rw [hl] at h <;> cases h
theorem chkB_ok (ht : tabOk .any l.toArray l.length l T = true) : ∀ (B : List (Nat × Bool)) (mask : Nat), chkB T B mask = true → btGo .any l.toArray (BT.seq B) true B.length (lst l.length mask) = true
  | [], mask, h => by
    simp only [BT.seq, btGo, List.length_nil, beq_self_eq_true, Bool.true_and]
    rw [ready_none ht h]; rfl
  | (k, true) :: r, mask, h => by
    simp only [chkB, Bool.and_eq_true] at h
    obtain ⟨h1, h3⟩ := h
    cases hk : T[k]? with
    | none => rw [hk] at h1; cases h1
    | some rk =>
      rw [hk] at h1
      obtain ⟨o, ho, rfl⟩ := op_at ht hk
      simp only [Bool.and_eq_true, Nat.beq_eq] at h1
      obtain ⟨⟨h1, h4⟩, h5⟩ := h1
      simp only [BT.seq, btGo, List.length_cons, Bool.and_eq_true]
      refine ⟨⟨⟨by simpa using (ready_iff ht hk).2 h1, by rw [ho]; exact kind0 h4⟩, free_of ht ho h5⟩, ?_⟩
      rw [lst_set]
      exact chkB_ok ht r _ h3
  | (k, false) :: r, mask, h => by
    simp only [chkB, Bool.and_eq_true] at h
    obtain ⟨⟨h1, h2⟩, h3⟩ := h
    cases hk : T[k]? with
    | none => rw [hk] at h1; cases h1
    | some rk =>
      rw [hk] at h1
      obtain ⟨o, ho, rfl⟩ := op_at ht hk
      simp only [BT.seq, btGo, List.length_cons, Bool.and_eq_true, beq_iff_eq]
      refine ⟨⟨ready_one ht hk h1 h2, by rw [ho]; rfl⟩, ?_⟩
      rw [lst_set]
      exact chkB_ok ht r _ h3
theorem kind1 {o : Oper} (h : kindB o = 1) : loadOp o.op = true := by
  unfold kindB at h
  cases hw : wless o.op with
  | true => rw [hw] at h; cases h
  | false =>
    rw [hw] at h
    cases hl : loadOp o.op with
    | false => rw [hl] at h; cases h
    | true => rfl
theorem blkC_ok (ht : tabOk .any l.toArray l.length l T = true) (W : Nat → Bool) (Wm : Nat) (hW : ∀ j, Wm.testBit j = true → W j = true) {k : Nat} (h6 : blkC T k (blkR k 0 T 0) mask Wm = true) :
    ∃ Bl : Nat → Bool, (∀ j oj, l.toArray[j]? = some oj → Bl j = true → j ≠ k → ∃ e ∈ oj.after, Region.binds .any e = true ∧ Bl e.on = true) ∧ (∀ j, Bl j = true → (lst l.length mask).getD j false = false) ∧
      ∀ j, j < l.toArray.size → j = k ∨ (lst l.length mask).getD j true = true ∨ Bl j = true ∨ W j = true := by
  refine ⟨fun j => (blkR k 0 T 0).testBit j, ?_, ?_, ?_⟩
  · intro j oj hoj hb hne
    simp only [blkC, Bool.and_eq_true] at h6
    have h9 := allI_get T 0 h6.1 j _ (row_at ht hoj)
    rw [Nat.zero_add] at h9
    simp only [hb, Bool.and_eq_true, Bool.or_eq_true, Bool.not_true, Bool.false_eq_true, false_or, Nat.beq_eq, hne, Bool.not_eq_true'] at h9
    have hne0 : (rowOf .any l.toArray oj).need &&& blkR k 0 T 0 ≠ 0 := by
      intro h0
      have := h9.1.1
      rw [h0] at this
      simp at this
    obtain ⟨t, ht'⟩ := Nat.exists_testBit_of_ne_zero hne0
    rw [Nat.testBit_and, Bool.and_eq_true] at ht'
    obtain ⟨e, he, hbd, hon⟩ := need_bit.1 ht'.1
    exact ⟨e, he, hbd, by rw [hon]; exact ht'.2⟩
  · intro j hb
    replace hb : (blkR k 0 T 0).testBit j = true := hb
    simp only [blkC, Bool.and_eq_true, Nat.blt_eq] at h6
    obtain ⟨hlen, _⟩ := tabOk_get l T ht
    have hj : j < l.length := by
      rcases Nat.lt_or_ge j l.length with h | h
      · exact h
      · have := Nat.testBit_lt_two_pow (Nat.lt_of_lt_of_le h6.2 (Nat.pow_le_pow_right (by omega) (by omega : T.length ≤ j)))
        rw [this] at hb; cases hb
    have hrj : T[j]? = some T[j] := by simp [hlen, hj]
    have h9 := allI_get T 0 h6.1 j _ hrj
    rw [Nat.zero_add] at h9
    rw [lst_getD, if_pos hj]
    simp only [hb, Bool.and_eq_true, Bool.or_eq_true, Bool.not_true, Bool.false_eq_true, false_or, Bool.not_eq_true'] at h9
    exact h9.1.2
  · intro j hj
    have hj' : j < l.length := by simpa using hj
    simp only [blkC, Bool.and_eq_true] at h6
    obtain ⟨hlen, _⟩ := tabOk_get l T ht
    have hrj : T[j]? = some T[j] := by simp [hlen, hj']
    have h9 := allI_get T 0 h6.1 j _ hrj
    rw [Nat.zero_add] at h9
    simp only [Bool.and_eq_true, Bool.or_eq_true, Nat.beq_eq] at h9
    rw [lst_getD, if_pos hj']
    rcases h9.2 with ((h9 | h9) | h9) | h9
    · exact .inl h9
    · exact .inr (.inl h9)
    · exact .inr (.inr (.inl h9))
    · exact .inr (.inr (.inr (hW j h9)))
theorem chkX_ok (ht : tabOk .any l.toArray l.length l T = true) (W : Nat → Bool) (Wm : Nat) (hW : ∀ j, Wm.testBit j = true → W j = true) (bt : BT) (m : Nat) (f : Nat → Bool) (hf : ∀ mask, f mask = true → btGo .any l.toArray bt true m (lst l.length mask) = true) : ∀ (X : List Nat) (mask : Nat), chkX T Wm X mask f = true → PreP .any l.toArray bt m W X (lst l.length mask)
  | [], mask, h => hf mask h
  | k :: r, mask, h => by
    simp only [chkX, Bool.and_eq_true] at h
    obtain ⟨h1, h3⟩ := h
    cases hk : T[k]? with
    | none => rw [hk] at h1; cases h1
    | some rk =>
      rw [hk] at h1
      obtain ⟨o, ho, rfl⟩ := op_at ht hk
      simp only [Bool.and_eq_true, Bool.or_eq_true, Nat.beq_eq] at h1
      obtain ⟨⟨⟨h1, h5⟩, h4⟩, h6⟩ := h1
      refine ⟨(ready_iff ht hk).2 h1, free_of ht ho h5, hW k h4, ⟨o, ho, h6.imp kind0 fun h9 => ⟨kind1 h9.1, blkC_ok ht W Wm hW h9.2⟩⟩, ?_⟩
      rw [lst_set]
      exact chkX_ok ht W Wm hW bt m f hf r _ h3
end
section
variable {P : Program} {F : Frm} {l : List Oper} {T : List Row} {Q : Exit → Act → World → Prop} {k : St → Prop} {R0 : Nat → Prop} {w0 : Org}
theorem Sat.region_rows {K : Exit → St → Prop} {st : St} {id : Nat} {l : List Oper} (T : List Row) (X : List Nat) (B : List (Nat × Bool)) (ws : List Nat) (hm : P.follows .mixedOrders = true) (hB : keepC l T X B ws = true) (hpan : ∀ c st, ¬ K (.panic c) st)
    (h : ∀ k : St → Prop, (∀ st', K .normal st' → k st') → WO P F (l.map (·.dst)) (X.map fun i => l.getD i default) st fun st2 => WBT P F (l.map (·.dst)) l st.own (keepW X ws) true (BT.seq B) st2 k) : Sat P F (.region id l.toArray true) st K := by
  rintro R0 w0 a w ⟨ob, R, hr⟩
  simp only [keepC, chkR, Bool.and_eq_true, Nat.beq_eq] at hB
  obtain ⟨⟨⟨hsel, ht⟩, hc⟩, hlen⟩ := hB
  have hdrew : Grown w { w with drawn := w.drawn + 1 } := ⟨rfl, rfl, rfl, Nat.le_refl _, fun _ _ _ => rfl⟩
  refine wp_region_any hm ?_
  have hpan' : ∀ c a w, ¬ (fun e a' w' => ∃ st', K e st' ∧ Rel F R0 w0 st' a' w') (.panic c) a w := fun c a w ⟨st', hk, _⟩ => hpan c st' hk
  have := keep_sound (P := P) (F := F) (R0 := R0) (w0 := w0) (Q := fun e a' w' => ∃ st', K e st' ∧ Rel F R0 w0 st' a' w') (k := K .normal) hpan' hsel X ws (BT.seq B) B.length (lst l.length 0) st a { w with drawn := w.drawn + 1 }
    (chkX_ok ht (keepW X ws) _ (fun j hj => by rw [Nat.testBit_or, maskL_bit, maskL_bit] at hj; exact hj) (BT.seq B) B.length _ (fun mask hb => chkB_ok ht B mask hb) X 0 hc)
    (by simpa using h _ fun _ h => h) ⟨ob, R, hr.grown hdrew⟩ (fun st' a' w' hk hr' => ⟨st', hk, hr'⟩)
  rw [hlen, lst_zero] at this
  simpa using this
theorem Sat.know_nil {c : Code} {K : Exit → St → Prop} {n : Nat} {env : List (Nat × SV)} {own : List Own} (t : Nat) {a : Option Addr} {len cap sz : Nat} {rd : Nat → Nat → SV} (hl : look env t = some (.sl a len cap sz rd)) (h : (a = none → len = 0) → Sat P F c ⟨n, env, own⟩ K) : Sat P F c ⟨n, env, own⟩ K := by
  rintro R0 w0 ac w ⟨ob, R, hr⟩
  refine h ?_ R0 w0 ac w ⟨ob, R, hr⟩
  rintro rfl
  rcases (hr.env t _ hl).2.2.2 with h | ⟨blk, off, h, _⟩
  · exact h
  · cases h
theorem Sat.know_row {c : Code} {K : Exit → St → Prop} {n : Nat} {env : List (Nat × SV)} {own : List Own} (id : Nat) {a : Option Addr} {e len cap sz : Nat} {rd : Nat → Nat → SV} (hl : own[id]? = some (.row a e len cap sz rd)) (h : len ≤ cap → Sat P F c ⟨n, env, own⟩ K) : Sat P F c ⟨n, env, own⟩ K := by
  rintro R0 w0 ac w ⟨ob, R, hr⟩
  refine h ?_ R0 w0 ac w ⟨ob, R, hr⟩
  rcases (hr.own _ _ hl).1.2 with ⟨hv, h0⟩ | ⟨g, cap', cur, hv, _, _, hn, _⟩
  · simp only [Value.slice.injEq] at hv; omega
  · simp only [Value.slice.injEq] at hv; omega
theorem Sat.adoptBox {c : Code} {K : Exit → St → Prop} {n : Nat} {env : List (Nat × SV)} {own : List Own} (id j : Nat) (e sz : Nat) (rd : Nat → Nat → SV) {blk ty sz0 : Nat} {cs : List SV} {rd0 : Nat → Nat → SV} (hl : own[id]? = some (.box blk ty cs)) (hj : cs[j]? = some (.sl none 0 0 sz0 rd0))
    (h : Sat P F c ⟨n, env, own.set id (.box blk ty (cs.set j (.os own.length none 0 0))) ++ [.row none e 0 0 sz rd]⟩ K) : Sat P F c ⟨n, env, own⟩ K := by
  rintro R0 w0 a w ⟨ob, R, hr⟩
  refine h R0 w0 a w ⟨ob, R, ?_⟩
  have hbox := hr.own id _ hl
  have hidl : id < own.length := (List.getElem?_eq_some_iff.1 hl).1
  have hjl : j < cs.length := (List.getElem?_eq_some_iff.1 hj).1
  have hden : (cs.set j (.os own.length none 0 0)).map SV.den = cs.map SV.den := by
    apply List.ext_getElem?
    intro q
    rw [List.getElem?_map, List.getElem?_map, List.getElem?_set]
    by_cases e : j = q
    · subst e
      rw [if_pos rfl, if_pos hjl, hj]; rfl
    · rw [if_neg e]
  have hok : (Own.box blk ty (cs.set j (.os own.length none 0 0))).ok R ob w := by
    refine ⟨hbox.1, hbox.2.1, by rw [hden]; exact hbox.2.2.1, fun x hx => ?_⟩
    rcases List.mem_or_eq_of_mem_set hx with hx | rfl
    · exact hbox.2.2.2 x hx
    · exact ⟨rfl, trivial⟩
  have h1 : RelR F R0 w0 ob R ⟨n, env, own.set id (.box blk ty (cs.set j (.os own.length none 0 0)))⟩ a w := by
    refine ⟨hr.defers, hr.env, hr.size, ?_, ?_, hr.evo, hr.inv, hr.obM, ?_, hr.obw, hr.rr, hr.r0⟩
    · intro i x hx
      rw [List.getElem?_set] at hx
      split at hx
      · simp only [hidl, if_true, Option.some.injEq] at hx
        subst hx
        exact hok
      · exact hr.own i x hx
    · intro i k x y hik hx hy b hb1 hb2
      rw [List.getElem?_set] at hx hy
      split at hx <;> split at hy
      · omega
      · rename_i e1 _
        subst e1
        simp only [hidl, if_true, Option.some.injEq] at hx
        subst hx
        exact hr.dist id k _ y hik hl hy b hb1 hb2
      · rename_i _ e1
        subst e1
        simp only [hidl, if_true, Option.some.injEq] at hy
        subst hy
        exact hr.dist i id x _ hik hx hl b hb1 hb2
      · exact hr.dist i k x y hik hx hy b hb1 hb2
    · exact gb_set (m := w0.w.heap.size) (Nat.le_refl _) hr.gb hl fun b hb => .inl hb
  exact h1.newRow (o := .row none e 0 0 sz rd) (w' := w) (grown_refl w none) (fun b hb => by cases hb) ⟨by simpa [cellsOf] using World.ownsRow_nil w _ e sz, (fun g hg => by cases hg), (fun i j hi => absurd hi (Nat.not_lt_zero _))⟩
theorem sim_nil (sz sz' : Nat) (rd rd' : Nat → Nat → SV) : sim (.sl none 0 0 sz rd) (.sl none 0 0 sz' rd') := ⟨rfl, fun R w h => ⟨h.1, h.2.1, .inl rfl⟩⟩
theorem sim_tup2 {s s' t t' : SV} (h0 : sim s s') (h1 : sim t t') : sim (tupL [s, t]) (tupL [s', t']) := by
  refine ⟨?_, fun R w h j hj => ?_⟩
  · simp only [tupL, SV.den, List.length_cons, List.length_nil]
    have : (List.range (0 + 1 + 1)) = [0, 1] := rfl
    rw [this]
    simp only [List.map_cons, List.map_nil, List.getD_cons_zero, List.getD_cons_succ, h0.1, h1.1]
  · have hj' : j < 2 := hj
    rcases (show j = 0 ∨ j = 1 by omega) with rfl | rfl
    · exact h0.2 R w (h 0 (by simp))
    · exact h1.2 R w (h 1 (by simp))
theorem sim_bools (n : Nat) (l l' : List SV) (hl : l.length = n) (h : l.map roB = l') : sim (.agg n fun j => l.getD j default) (.agg n fun j => l'.getD j default) := by
  subst h
  have hg : ∀ j, j < n → (l.map roB).getD j default = roB (l.getD j default) := fun j hj => getD_map_lt (by omega)
  refine ⟨?_, fun R w h j hj => ?_⟩
  · simp only [SV.den]
    congr 2
    apply List.map_congr_left
    intro j hj
    rw [hg j (by simpa using hj), roB_den]
  · have this : (l.getD j default).ok R w := h j hj
    show (((l.map roB)).getD j default).ok R w
    rw [hg j hj]
    generalize l.getD j default = s at this ⊢
    cases s <;> first | exact this | trivial
theorem sim_agg2 {f g : Nat → SV} (h0 : sim (f 0) (g 0)) (h1 : sim (f 1) (g 1)) : sim (.agg 2 f) (.agg 2 g) := by
  refine ⟨?_, fun R w h j hj => ?_⟩
  · simp only [SV.den]
    have : (List.range 2) = [0, 1] := rfl
    rw [this]
    simp only [List.map_cons, List.map_nil, h0.1, h1.1]
  · rcases (show j = 0 ∨ j = 1 by omega) with rfl | rfl
    · exact h0.2 R w (h 0 (by omega))
    · exact h1.2 R w (h 1 (by omega))
theorem ContractN.toC {f : FuncId} {args : List SV} {post : Own → Prop} (h : ContractN F P f args post) : Contract F P f args (fun r => ∃ a ty len cap sz rd, r = .sl a len cap sz rd ∧ post (.row a ty len cap sz rd)) := by
  refine ⟨h.enters, fun R w hinv hargs hR => (h.calls R w hinv hargs hR).mono ?_⟩
  rintro e w' ⟨a, ty, len, cap, sz, rd, R', rfl, hpost, hRR, hR', ho, hevo, hinv'⟩
  refine ⟨.sl a len cap sz rd, rfl, ⟨a, ty, len, cap, sz, rd, rfl, hpost⟩, ?_, hevo, hinv'⟩
  refine SV.ok_mono (R := fun b => R' b ∨ (Own.row a ty len cap sz rd).blk = some b) (fun b hb => ?_) (fun _ _ => rfl) _ (row_sl ho (fun _ h => .inl h) fun b hb => .inr hb)
  rcases hb with hb | hb
  · exact hR' b hb
  · exact .inr ⟨(Own.blk_lt ho hb).1, (Own.blk_lt ho hb).2.1⟩
theorem Contract.same {f : FuncId} {args : List SV} {post post' : SV → Prop} (h : Contract F P f args post) (hp : ∀ r, post r → ∃ r', sim r r' ∧ post' r') : Contract F P f args post' := by
  refine ⟨h.enters, fun R w hinv hargs hR => (h.calls R w hinv hargs hR).mono ?_⟩
  rintro e w' ⟨r, rfl, hpost, hok, hevo, hinv'⟩
  obtain ⟨r', hs, hp'⟩ := hp r hpost
  exact ⟨r', by rw [hs.1], hp', hs.2 _ _ hok, hevo, hinv'⟩
end
end Eng
end Go.Proofs.YtgimngpcfenoaaaDoor

/- The evaluator, part V: a struct that holds rows of the call's own is handed to a function that only reads them. -/
set_option linter.unusedSimpArgs false
set_option linter.unusedVariables false
namespace Go.Proofs.YtgimngpcfenoaaaDoor
namespace Eng
section
variable {P : Program} {F : Frm}
def noRow (own : List Own) : SV → Bool
  | .os id _ _ _ => match own[id]? with | some (.row _ _ _ _ _ _) => false | _ => true
  | _ => true
def leafOk (own : List Own) : SV → Bool
  | .agg n rd => (List.range n).all fun j => noRow own (rd j)
  | s => noRow own s
def leafS (own : List Own) : SV → SV
  | .agg n rd => .agg n fun j => roSl own (rd j)
  | s => roArgS own s
theorem roSl_frz {R0 R : Nat → Prop} {w0 : Org} {w : World} {ob : Nat} {st : St} {a : Act} (hr : RelR F R0 w0 ob R st a w) {s : SV} (hn : noRow st.own s = true) (hs : s.ok R w) : (roSl st.own s).den = s.den ∧ (roSl st.own s).ok R w := by
  refine ⟨(roSl_ok hr hs).1, ?_⟩
  unfold roSl
  cases hany : asAny st.own s with
  | none => exact hs
  | some p =>
    obtain ⟨a', len, cap, sz, rd⟩ := p
    have rd_ok : ∀ {s : SV}, asRead st.own s = some (a', len, cap, sz, rd) → s.ok R w → (SV.sl a' len cap sz rd).ok R w := fun h1 h2 => (asRead_ok (st := st) h1 hr.own h2).2
    unfold asAny at hany
    split at hany
    · rename_i id a1 len1 cap1
      split at hany
      · rename_i a2 e2 len2 cap2 sz2 rd2 ho2
        simp only [noRow, ho2] at hn
        cases hn
      · exact rd_ok hany hs
    · exact rd_ok hany hs
theorem leafS_ok {R0 R : Nat → Prop} {w0 : Org} {w : World} {ob : Nat} {st : St} {a : Act} (hr : RelR F R0 w0 ob R st a w) {s : SV} (hn : leafOk st.own s = true) (hs : s.ok R w) : (leafS st.own s).den = s.den ∧ (leafS st.own s).ok R w := by
  have top : ∀ s : SV, noRow st.own s = true → s.ok R w → (roArgS st.own s).den = s.den ∧ (roArgS st.own s).ok R w := fun s hn hs => by
    have := roSl_frz hr hn hs
    cases s <;> first | exact ⟨rfl, trivial⟩ | exact this
  cases s with
  | agg n rd =>
    have hn' : ∀ j, j < n → noRow st.own (rd j) = true := fun j hj => List.all_eq_true.1 hn j (List.mem_range.2 hj)
    refine ⟨?_, fun j hj => (roSl_frz hr (hn' j hj) (hs j hj)).2⟩
    simp only [leafS, SV.den]
    congr 2
    apply List.map_congr_left
    intro j hj
    exact (roSl_frz hr (hn' j (List.mem_range.1 hj)) (hs j (List.mem_range.1 hj))).1
  | v x => exact top (.v x) hn hs
  | i k m => exact top (.i k m) hn hs
  | b x => exact top (.b x) hn hs
  | tt => exact top .tt hn hs
  | ff => exact top .ff hn hs
  | sl a l c z rd => exact top (.sl a l c z rd) hn hs
  | el a m rd => exact top (.el a m rd) hn hs
  | os id a l c => exact top (.os id a l c) hn hs
  | mp id b => exact top (.mp id b) hn hs
  | oe id b o x j => exact top (.oe id b o x j) hn hs
  | op id b o => exact top (.op id b o) hn hs
  | tup m rd => exact top (.tup m rd) hn hs
  | ow id a z o l c => exact top (.ow id a z o l c) hn hs
  | fn f m rd => exact top (.fn f m rd) hn hs
theorem callK_leaf {st : St} {dst : Option Tmp} {k : St → Prop} {f : FuncId} {args : List SV} {post : SV → Prop} (ids : List SV) {own' : List Own} (hown : frz st.own ids = own') (hl : args.all (leafOk own') = true) (h : Contract F P f (args.map (leafS own')) post)
    (hk : ∀ r, post r → k (St.put { st with own := own' } dst r)) : CallK P F f args st dst k := by
  subst hown
  intro R0 w0 ob R a w hr hargs
  refine ⟨h.enters, ?_⟩
  obtain ⟨R1, hm1, hr1⟩ := hr.frz ids
  have hargs1 : ∀ s ∈ args, s.ok R1 w := fun s hs => SV.ok_mono hm1 (fun _ _ => rfl) s (hargs s hs)
  have hall : ∀ s ∈ args, leafOk (frz st.own ids) s = true := List.all_eq_true.1 hl
  have hden : (args.map (leafS (Eng.frz st.own ids))).map SV.den = args.map SV.den := by
    rw [List.map_map]
    exact List.map_congr_left fun s hs => (leafS_ok hr1 (hall s hs) (hargs1 s hs)).1
  have hok : ∀ s ∈ args.map (leafS (Eng.frz st.own ids)), s.ok R1 w := by
    intro s' hs'
    obtain ⟨s, hs, rfl⟩ := List.mem_map.1 hs'
    exact (leafS_ok hr1 (hall s hs) (hargs1 s hs)).2
  have hc := h.calls R1 w hr1.inv hok (fun b hb => ⟨(hr1.rr b hb).1, (hr1.rr b hb).2.1⟩)
  rw [hden] at hc
  refine hc.mono ?_
  rintro e w' ⟨r, rfl, hpost, hrok, hevo, hinv⟩
  exact ⟨r, _, _, rfl, hk r hpost, hrok, hr1.called hevo hinv, rfl⟩
theorem wcall_leaf {ds : List (Option Tmp)} {rest : List Oper} {dst : Option Tmp} {n : Nat} {env : List (Nat × SV)} {own own' : List Own} {k : St → Prop} {f : FuncId} {args args' : List SV} {post : SV → Prop} (ids : List SV) (hown : frz own ids = own') (hl : args.all (leafOk own') = true)
    (h : Contract F P f args' post) (ha : args.map (leafS own') = args') (hk : ∀ r, post r → WO P F ds rest (St.put ⟨n, env, own'⟩ dst r) k) : WCall P F ds rest dst ⟨n, env, own⟩ f (some args) k := by
  unfold WCall
  subst ha
  exact callK_leaf (st := ⟨n, env, own⟩) (k := fun st' => WO P F ds rest st' k) ids hown hl h hk
end
end Eng
end Go.Proofs.YtgimngpcfenoaaaDoor

/- Bits of addresses (no program in sight): masks, what lies below a mask. -/
namespace Go.Proofs.YtgimngpcfenoaaaDoor
theorem w32u (n : Int) (h₀ : 0 ≤ n) (h₁ : n < 2 ^ 32) : IntKind.u32.wrap n = n := by rw [IntKind.wrap_u32]; omega
def maskN (k : Nat) : Nat := 2 ^ 32 - 2 ^ k
theorem pow_le32 {k : Nat} (hk : k ≤ 32) : 2 ^ k ≤ 2 ^ 32 := Nat.pow_le_pow_right (by decide) hk
theorem maskN_lt (k : Nat) : maskN k < 2 ^ 32 := by have := Nat.two_pow_pos k; unfold maskN; omega
theorem maskN_shift {k : Nat} (hk : k ≤ 32) : maskN k = (2 ^ (32 - k) - 1) * 2 ^ k := by
  unfold maskN
  rw [Nat.sub_mul, ← Nat.pow_add, Nat.one_mul, Nat.sub_add_cancel hk]
theorem and_maskN {a k : Nat} (ha : a < 2 ^ 32) (hk : k ≤ 32) : a &&& maskN k = a / 2 ^ k * 2 ^ k := by
  have e : a / 2 ^ k * 2 ^ k = (a >>> k) <<< k := by rw [Nat.shiftLeft_eq, Nat.shiftRight_eq_div_pow]
  have e2 : maskN k = (2 ^ (32 - k) - 1) <<< k := by rw [Nat.shiftLeft_eq, maskN_shift hk]
  rw [e, e2]
  apply Nat.eq_of_testBit_eq
  intro i
  rw [Nat.testBit_and, Nat.testBit_shiftLeft, Nat.testBit_shiftLeft, Nat.testBit_two_pow_sub_one, Nat.testBit_shiftRight]
  by_cases h : k ≤ i
  · have e3 : k + (i - k) = i := by omega
    simp only [ge_iff_le, h, decide_true, Bool.true_and, e3]
    by_cases h2 : i < 32
    · have : i - k < 32 - k := by omega
      simp [this]
    · have : a.testBit i = false := Nat.testBit_lt_two_pow (Nat.lt_of_lt_of_le ha (Nat.pow_le_pow_right (by decide) (by omega)))
      simp [this]
  · simp [h]
theorem and_mask {a k : Nat} (ha : a < 2 ^ 32) (hk : k ≤ 32) : bits .and .u32 (a : Int) (maskN k : Int) = ((a / 2 ^ k * 2 ^ k : Nat) : Int) := by
  rw [(bits_nat .u32 32 (by decide) w32u a (maskN k) ha (maskN_lt k)).1, and_maskN ha hk]
theorem or_low {p y k : Nat} (hk : k ≤ 32) (hp : p % 2 ^ k = 0) (hp1 : p < 2 ^ 32) (hy : y < 2 ^ k) : bits .or .u32 (p : Int) (y : Int) = ((p + y : Nat) : Int) := by
  have h1 : y < 2 ^ 32 := Nat.lt_of_lt_of_le hy (pow_le32 hk)
  rw [bits_join .u32 32 (by decide) w32u k p y (by omega) (by exact_mod_cast hp) (by exact_mod_cast hp1) (by omega) (by exact_mod_cast hy) (by exact_mod_cast h1)]
  rfl
theorem ofInt_u (n : Nat) (h : n < 2 ^ 32) : (BitVec.ofInt 32 (n : Int)).toNat = n := by
  rw [BitVec.toNat_ofInt]
  omega
theorem andNot_mask {a k : Nat} (ha : a < 2 ^ 32) (hk : k ≤ 32) : bits .andNot .u32 (a : Int) (maskN k : Int) = ((a % 2 ^ k : Nat) : Int) := by
  show IntKind.u32.wrap ((BitVec.ofInt 32 (a : Int) &&& ~~~BitVec.ofInt 32 (maskN k : Int)).toNat : Int) = _
  have hm := maskN_lt k
  have hp := pow_le32 hk
  have hpp := Nat.two_pow_pos k
  rw [BitVec.toNat_and, BitVec.toNat_not, ofInt_u a ha, ofInt_u (maskN k) hm]
  have e : 2 ^ 32 - 1 - maskN k = 2 ^ k - 1 := by unfold maskN; omega
  rw [e, Nat.and_two_pow_sub_one_eq_mod, w32u _ (by omega) (by have := Nat.mod_lt a hpp; omega)]
theorem xor_u {a b : Nat} (ha : a < 2 ^ 32) (hb : b < 2 ^ 32) : bits .xor .u32 (a : Int) (b : Int) = ((a ^^^ b : Nat) : Int) := by
  show IntKind.u32.wrap ((BitVec.ofInt 32 (a : Int) ^^^ BitVec.ofInt 32 (b : Int)).toNat : Int) = _
  have h := Nat.xor_lt_two_pow ha hb
  rw [BitVec.toNat_xor, ofInt_u a ha, ofInt_u b hb, w32u _ (by omega) (by omega)]
theorem flip_mask {k : Nat} (hk : k ≤ 32) : bits .xor .u32 4294967295 (maskN k : Int) = ((2 ^ k - 1 : Nat) : Int) := by
  show IntKind.u32.wrap ((BitVec.ofInt 32 4294967295 ^^^ BitVec.ofInt 32 (maskN k : Int)).toNat : Int) = _
  have hm := maskN_lt k
  have hp := pow_le32 hk
  have hpp := Nat.two_pow_pos k
  have e : BitVec.ofInt 32 4294967295 = BitVec.allOnes 32 := by decide
  rw [e, BitVec.allOnes_xor, BitVec.toNat_not, ofInt_u (maskN k) hm]
  have e2 : 2 ^ 32 - 1 - maskN k = 2 ^ k - 1 := by unfold maskN; omega
  rw [e2, w32u _ (by omega) (by omega)]
theorem xor_lt {a b k : Nat} : a ^^^ b < 2 ^ k ↔ a / 2 ^ k = b / 2 ^ k := by
  rw [← Nat.shiftRight_eq_div_pow, ← Nat.shiftRight_eq_div_pow]
  constructor
  · intro h
    have h1 : (a ^^^ b) >>> k = 0 := by rw [Nat.shiftRight_eq_div_pow]; exact Nat.div_eq_of_lt h
    rw [Nat.shiftRight_xor_distrib] at h1
    have h2 : (a >>> k ^^^ b >>> k) ^^^ b >>> k = b >>> k := by rw [h1, Nat.zero_xor]
    rwa [Nat.xor_assoc, Nat.xor_self, Nat.xor_zero] at h2
  · intro h
    have h1 : (a ^^^ b) >>> k = 0 := by rw [Nat.shiftRight_xor_distrib, h, Nat.xor_self]
    rw [Nat.shiftRight_eq_div_pow] at h1
    rcases Nat.div_eq_zero_iff.1 h1 with h2 | h2
    · have := Nat.two_pow_pos k; omega
    · exact h2
end Go.Proofs.YtgimngpcfenoaaaDoor

/- Prefixes (no program in sight): which are valid, what they contain, which one covers another, halves, the longest common one. -/
namespace Go.Proofs.YtgimngpcfenoaaaDoor
structure Prf where
  addr : Nat
  len : Int
  deriving DecidableEq
instance : Inhabited Prf := ⟨⟨0, 0⟩⟩
def Prf.k (p : Prf) : Nat := 32 - p.len.toNat
def vld (p : Prf) : Bool := decide (0 ≤ p.len) && (decide (p.len ≤ 32) && decide (p.addr % 2 ^ p.k = 0))
def cont (p : Prf) (a : Nat) : Bool := vld p && decide (a / 2 ^ p.k * 2 ^ p.k = p.addr)
def cov (p q : Prf) : Bool := vld q && (decide (p.len ≤ q.len) && cont p q.addr)
def Prf.high (p : Prf) : Nat := p.addr + (2 ^ p.k - 1)
theorem vld_iff {p : Prf} : vld p = true ↔ 0 ≤ p.len ∧ p.len ≤ 32 ∧ p.addr % 2 ^ p.k = 0 := by simp [vld]
theorem mul_of_mod {a k : Nat} (h : a % 2 ^ k = 0) : a / 2 ^ k * 2 ^ k = a := Nat.div_mul_cancel (Nat.dvd_of_mod_eq_zero h)
theorem in_range {a P k : Nat} (h : P % 2 ^ k = 0) : a / 2 ^ k * 2 ^ k = P ↔ P ≤ a ∧ a ≤ P + (2 ^ k - 1) := by
  have hp := Nat.two_pow_pos k
  have hd := Nat.div_add_mod a (2 ^ k)
  have hm := Nat.mod_lt a hp
  rw [Nat.mul_comm] at hd
  constructor
  · intro e; omega
  · rintro ⟨h1, h2⟩
    have e1 := mul_of_mod h
    have : a / 2 ^ k = P / 2 ^ k := by
      apply Nat.div_eq_of_lt_le
      · rw [e1]; exact h1
      · rw [Nat.succ_mul, e1]; omega
    rw [this, e1]
theorem cont_range {p : Prf} (h : vld p = true) (a : Nat) : cont p a = (decide (p.addr ≤ a) && decide (a ≤ p.high)) := by
  have h3 := (vld_iff.1 h).2.2
  unfold cont Prf.high
  rw [h, Bool.true_and, decide_eq_decide.2 (in_range h3), Bool.decide_and]
theorem pow_mono {i j : Nat} (h : i ≤ j) : 2 ^ i ≤ 2 ^ j := Nat.pow_le_pow_right (by decide) h
theorem pow_split {i j : Nat} (h : i ≤ j) : 2 ^ j = 2 ^ (j - i) * 2 ^ i := by rw [← Nat.pow_add]; congr 1; omega
theorem mod_of_mod {a i j : Nat} (h : i ≤ j) (hm : a % 2 ^ j = 0) : a % 2 ^ i = 0 :=
  Nat.mod_eq_zero_of_dvd (Nat.dvd_trans ⟨2 ^ (j - i), by rw [pow_split h, Nat.mul_comm]⟩ (Nat.dvd_of_mod_eq_zero hm))
theorem mult_le {P Q i : Nat} (hP : P % 2 ^ i = 0) (hQ : Q % 2 ^ i = 0) (h : Q ≤ P + (2 ^ i - 1)) : Q ≤ P := by
  have h1 := mul_of_mod hP
  have h2 := mul_of_mod hQ
  have hp := Nat.two_pow_pos i
  have : Q / 2 ^ i ≤ P / 2 ^ i := by
    apply Nat.le_of_lt_succ
    rw [Nat.div_lt_iff_lt_mul hp, Nat.succ_mul, h1]
    omega
  have := Nat.mul_le_mul_right (2 ^ i) this
  omega
theorem nest {P Q i j : Nat} (hij : i ≤ j) (hP : P % 2 ^ i = 0) (hQ : Q % 2 ^ j = 0) : (P ≤ Q + (2 ^ j - 1) ∧ Q ≤ P + (2 ^ i - 1)) ↔ P / 2 ^ j * 2 ^ j = Q := by
  rw [in_range hQ]
  constructor
  · rintro ⟨h1, h2⟩; exact ⟨mult_le hP (mod_of_mod hij hQ) h2, h1⟩
  · rintro ⟨h1, h2⟩; exact ⟨h2, by omega⟩
theorem k_le (p : Prf) : p.k ≤ 32 := by unfold Prf.k; omega
theorem len_k {p q : Prf} (hp : vld p = true) (hq : vld q = true) : p.len ≤ q.len ↔ q.k ≤ p.k := by
  obtain ⟨h1, h2, _⟩ := vld_iff.1 hp
  obtain ⟨g1, g2, _⟩ := vld_iff.1 hq
  unfold Prf.k
  omega
theorem cov_ends {p q : Prf} (hq : vld q = true) : (cont p q.addr && cont p q.high) = (decide (p.len ≤ q.len) && cont p q.addr) := by
  by_cases hp : vld p = true
  · obtain ⟨g1, g2, g3⟩ := vld_iff.1 hp
    obtain ⟨h1, h2, h3⟩ := vld_iff.1 hq
    rw [cont_range hp, cont_range hp]
    unfold Prf.high
    have hk := len_k hp hq
    have p1 := Nat.two_pow_pos p.k
    have p2 := Nat.two_pow_pos q.k
    apply Bool.eq_iff_iff.2
    simp only [Bool.and_eq_true, decide_eq_true_eq]
    constructor
    · rintro ⟨⟨a1, a2⟩, b1, b2⟩
      refine ⟨hk.2 ?_, a1, a2⟩
      by_cases hc : q.k ≤ p.k
      · exact hc
      · have h4 : 2 ^ (p.k + 1) ≤ 2 ^ q.k := pow_mono (by omega)
        rw [Nat.pow_succ] at h4
        omega
    · rintro ⟨a0, a1, a2⟩
      have hk2 := hk.1 a0
      have hm := (in_range g3).2 ⟨a1, a2⟩
      have h5 : p.addr + (2 ^ p.k - 1) ≥ q.addr + (2 ^ q.k - 1) := by
        have h6 : q.addr + 2 ^ q.k ≤ p.addr + 2 ^ p.k := by
          have e1 := mul_of_mod h3
          have e2 : (p.addr + 2 ^ p.k) % 2 ^ q.k = 0 := by
            rw [Nat.add_mod, mod_of_mod hk2 g3, mod_of_mod hk2 (Nat.mod_self _)]
            simp
          have e3 := mul_of_mod e2
          have : q.addr / 2 ^ q.k + 1 ≤ (p.addr + 2 ^ p.k) / 2 ^ q.k := by
            rw [Nat.succ_le_iff, Nat.div_lt_iff_lt_mul p2, e3]
            omega
          have := Nat.mul_le_mul_right (2 ^ q.k) this
          rw [Nat.succ_mul] at this
          omega
        omega
      exact ⟨⟨a1, a2⟩, by omega, h5⟩
  · have : ∀ a, cont p a = false := fun a => by unfold cont; rw [Bool.eq_false_iff.2 hp]; rfl
    rw [this, this]; simp
theorem cov_meet {p q : Prf} (hp : vld p = true) (hq : vld q = true) : (decide (p.addr ≤ q.high) && decide (q.addr ≤ p.high)) = (cov p q || cov q p) := by
  obtain ⟨g1, g2, g3⟩ := vld_iff.1 hp
  obtain ⟨h1, h2, h3⟩ := vld_iff.1 hq
  unfold cov cont
  rw [hp, hq]
  apply Bool.eq_iff_iff.2
  simp only [Bool.and_eq_true, Bool.or_eq_true, decide_eq_true_eq, true_and, len_k hp hq, len_k hq hp]
  unfold Prf.high
  rcases Nat.le_total p.k q.k with hk | hk
  · rw [nest hk g3 h3]
    constructor
    · intro h; exact .inr ⟨hk, h⟩
    · rintro (⟨h4, h5⟩ | ⟨_, h⟩)
      · have e : p.k = q.k := by omega
        rw [e] at h5 g3
        rw [mul_of_mod h3] at h5
        rw [← h5, mul_of_mod h3]
      · exact h
  · rw [and_comm, nest hk h3 g3]
    constructor
    · intro h; exact .inl ⟨hk, h⟩
    · rintro (⟨_, h⟩ | ⟨h4, h5⟩)
      · exact h
      · have e : p.k = q.k := by omega
        rw [← e] at h5 h3
        rw [mul_of_mod g3] at h5
        rw [← h5, mul_of_mod g3]
/-! ### Halves -/
def half1 (p : Prf) : Prf := ⟨p.addr, p.len + 1⟩
def half2 (p : Prf) : Prf := ⟨p.addr + 2 ^ (p.k - 1), p.len + 1⟩
theorem half_k {p : Prf} (h : vld p = true) (hl : p.len ≠ 32) : (half1 p).k = p.k - 1 ∧ (half2 p).k = p.k - 1 ∧ 1 ≤ p.k := by
  obtain ⟨h1, h2, _⟩ := vld_iff.1 h
  unfold half1 half2 Prf.k
  simp only
  omega
theorem half_vld {p : Prf} (h : vld p = true) (hl : p.len ≠ 32) : vld (half1 p) = true ∧ vld (half2 p) = true := by
  obtain ⟨h1, h2, h3⟩ := vld_iff.1 h
  obtain ⟨k1, k2, k3⟩ := half_k h hl
  have hm : p.addr % 2 ^ (p.k - 1) = 0 := mod_of_mod (by omega) h3
  refine ⟨vld_iff.2 ⟨?_, ?_, ?_⟩, vld_iff.2 ⟨?_, ?_, ?_⟩⟩
  · unfold half1; simp only; omega
  · unfold half1; simp only; omega
  · rw [k1]; exact hm
  · unfold half2; simp only; omega
  · unfold half2; simp only; omega
  · rw [k2]
    show (p.addr + 2 ^ (p.k - 1)) % 2 ^ (p.k - 1) = 0
    rw [Nat.add_mod_right]; exact hm
theorem half_cont {p : Prf} (h : vld p = true) (hl : p.len ≠ 32) (a : Nat) : cont p a = (cont (half1 p) a || cont (half2 p) a) ∧ (cont (half1 p) a && cont (half2 p) a) = false := by
  obtain ⟨v1, v2⟩ := half_vld h hl
  obtain ⟨k1, k2, k3⟩ := half_k h hl
  have hp := Nat.two_pow_pos (p.k - 1)
  have e : 2 ^ p.k = 2 ^ (p.k - 1) + 2 ^ (p.k - 1) := by rw [← Nat.mul_two, ← Nat.pow_succ]; congr 1; omega
  rw [cont_range h, cont_range v1, cont_range v2]
  unfold Prf.high
  rw [k1, k2, e]
  unfold half1 half2
  constructor
  · apply Bool.eq_iff_iff.2
    simp only [Bool.and_eq_true, Bool.or_eq_true, decide_eq_true_eq]
    omega
  · apply Bool.eq_false_iff.2
    simp only [ne_eq, Bool.and_eq_true, decide_eq_true_eq]
    omega
/-! ### The longest common prefix -/
def comK (a b : Nat) : Nat → Nat
  | 0 => 0
  | k + 1 => if a / 2 ^ k = b / 2 ^ k then comK a b k else k + 1
theorem comK_spec (a b : Nat) : ∀ k, a / 2 ^ k = b / 2 ^ k → comK a b k ≤ k ∧ a / 2 ^ comK a b k = b / 2 ^ comK a b k ∧ ∀ j, j < comK a b k → ¬ a / 2 ^ j = b / 2 ^ j
  | 0, h => ⟨Nat.le_refl _, h, fun j hj => absurd hj (Nat.not_lt_zero _)⟩
  | k + 1, h => by
    unfold comK
    split
    · rename_i e
      obtain ⟨h1, h2, h3⟩ := comK_spec a b k e
      exact ⟨by omega, h2, h3⟩
    · rename_i e
      refine ⟨Nat.le_refl _, h, fun j hj ej => e ?_⟩
      have : ∀ x, x / 2 ^ k = x / 2 ^ j / 2 ^ (k - j) := fun x => by
        rw [Nat.div_div_eq_div_mul, ← Nat.pow_add]; congr 2; omega
      rw [this a, this b, ej]
theorem comK_unique {a b k m : Nat} (hk : a / 2 ^ k = b / 2 ^ k) (_ : m ≤ k) (h2 : a / 2 ^ m = b / 2 ^ m) (h3 : ∀ j, j < m → ¬ a / 2 ^ j = b / 2 ^ j) : comK a b k = m := by
  obtain ⟨g1, g2, g3⟩ := comK_spec a b k hk
  rcases Nat.lt_trichotomy (comK a b k) m with h | h | h
  · exact absurd g2 (h3 _ h)
  · exact h
  · exact absurd h2 (g3 _ h)
end Go.Proofs.YtgimngpcfenoaaaDoor

/- Orders of lists of ints, the first that differs counts (no program in sight). -/
namespace Go.Proofs.YtgimngpcfenoaaaDoor
open Go.Sort
def ordI (a b : Int) : Int := if a < b then -1 else if b < a then 1 else 0
def orL : List Int → Int
  | [] => 0
  | x :: l => if x ≠ 0 then x else orL l
def cmpL (a b : List Int) : Int := orL (List.zipWith ordI a b)
theorem ordI_neg (a b : Int) : ordI b a = - ordI a b := by unfold ordI; split <;> split <;> omega
theorem ordI_zero {a b : Int} : ordI a b = 0 ↔ a = b := by unfold ordI; split <;> (try split) <;> omega
theorem ordI_lt {a b : Int} : ordI a b < 0 ↔ a < b := by unfold ordI; split <;> (try split) <;> omega
theorem ordI_vals (a b : Int) : ordI a b = -1 ∨ ordI a b = 0 ∨ ordI a b = 1 := by unfold ordI; split <;> (try split) <;> simp
theorem cmpL_cons (x : Int) (a : List Int) (y : Int) (b : List Int) : cmpL (x :: a) (y :: b) = if x = y then cmpL a b else ordI x y := by
  unfold cmpL
  simp only [List.zipWith_cons_cons, orL, ne_eq, ite_not, ordI_zero]
theorem cmpL_neg : ∀ (a b : List Int), cmpL b a = - cmpL a b
  | [], [] => rfl
  | [], _ :: _ => rfl
  | _ :: _, [] => rfl
  | x :: a, y :: b => by
    rw [cmpL_cons, cmpL_cons, cmpL_neg a b, ordI_neg x y]
    by_cases h : x = y
    · simp [h]
    · simp [h, Ne.symm h]
theorem cmpL_zero : ∀ (a b : List Int), a.length = b.length → (cmpL a b = 0 ↔ a = b)
  | [], [], _ => by simp [cmpL, orL]
  | [], _ :: _, h => by simp at h
  | _ :: _, [], h => by simp at h
  | x :: a, y :: b, h => by
    rw [cmpL_cons]
    by_cases e : x = y
    · simp [e, cmpL_zero a b (by simpa using h)]
    · simp [e, ordI_zero]
theorem cmpL_self (a : List Int) : cmpL a a = 0 := (cmpL_zero a a rfl).2 rfl
theorem cmpL_vals : ∀ (a b : List Int), cmpL a b = -1 ∨ cmpL a b = 0 ∨ cmpL a b = 1
  | [], [] => .inr (.inl rfl)
  | [], _ :: _ => .inr (.inl rfl)
  | _ :: _, [] => .inr (.inl rfl)
  | x :: a, y :: b => by
    rw [cmpL_cons]
    split
    · exact cmpL_vals a b
    · exact ordI_vals x y
theorem cmpL_trans : ∀ (a b c : List Int), a.length = b.length → b.length = c.length → cmpL a b < 0 → cmpL b c < 0 → cmpL a c < 0
  | [], b, c, _, _, h, _ => by
    have : cmpL [] b = 0 := by cases b <;> rfl
    omega
  | x :: a, [], c, h, _, _, _ => by simp at h
  | x :: a, y :: b, [], _, h, _, _ => by simp at h
  | x :: a, y :: b, z :: c, h1, h2, h, k => by
    rw [cmpL_cons] at *
    by_cases e : x = y
    · by_cases e2 : y = z
      · subst e; subst e2
        simp only [if_true] at *
        exact cmpL_trans a b c (by simpa using h1) (by simpa using h2) h k
      · subst e
        simp only [if_neg e2] at *
        exact k
    · by_cases e2 : y = z
      · subst e2
        simp only [if_neg e] at *
        exact h
      · simp only [if_neg e, if_neg e2, ordI_lt] at h k
        rw [if_neg (by omega), ordI_lt]
        omega
theorem cmpL_anti {a b : List Int} (h : a.length = b.length) : cmpL a b < 0 ∨ a = b ∨ cmpL b a < 0 := by
  rw [cmpL_neg a b]
  by_cases e : cmpL a b = 0
  · exact .inr (.inl ((cmpL_zero a b h).1 e))
  · omega
end Go.Proofs.YtgimngpcfenoaaaDoor

/- The evaluator, part It: range over a function. -/
set_option linter.unusedSimpArgs false
set_option linter.unusedVariables false
namespace Go.Proofs.YtgimngpcfenoaaaDoor
namespace Eng
def wideR (rd : Option Nat) : Fence := { Fence.wide with round := rd }
theorem put_with (a : Act) (ds : List Deferred) (d : Option Tmp) (v : Value) : ({ a with defers := ds } : Act).put d v = { a.put d v with defers := ds } := by cases d <;> rfl
theorem eval_with (a : Act) (ds : List Deferred) : ({ a with defers := ds } : Act).eval = a.eval := by funext x; cases x <;> rfl
section
variable {P : Program} {F : Frm} {st : St} {k : St → Prop} {dst : Option Tmp} {R0 R : Nat → Prop} {w0 : Org} {w : World} {ob : Nat} {a : Act}
theorem op_in {o : Oper} {ds : List Deferred} {rd : Option Nat} {n : Nat} {N : Act → World → Prop} {Q : Exit → Act → World → Prop} {next : Act → World → Prop}
    (h : o.wp P a w (fun a' w' => a'.defers = a.defers ∧ N a' w') (fun _ _ _ => False)) (hN : ∀ a' w', N a' w' → next { a' with defers := ds } w') :
    o.wpIn (wideR rd) n P { a with defers := ds } w next Q := by
  refine ⟨fun _ _ => trivial, ?_⟩
  have hnd : ∀ c, o.op ≠ .defer c := by
    intro c hc
    unfold Oper.wp execOp at h
    rw [hc] at h
    simp only [Sem.run_bind] at h
    cases hres : (resolve a.eval c o.type).run P w with
    | ok d w' => simp [hres, Result.andThen, Oper.upon, put_defers] at h
    | halt c' w' => 
      simp only [hres, Result.andThen] at h
      cases c' <;> exact h.elim
  rw [Oper.semAt_eq _ _ _ hnd, eval_with]
  unfold Oper.wp at h
  cases hr : (execOp a.eval o).run P w with
  | ok nx w' =>
    rw [hr] at h
    cases nx with
    | value v => rw [Oper.uponIn_value, put_with]; exact hN _ _ h.2
    | skip => rw [Oper.uponIn_skip, put_with]; exact hN _ _ h.2
    | defer d =>
      have h1 := h.1
      rw [put_defers] at h1
      simp at h1
    | enter f args =>
      rw [Oper.uponIn_enter]
      refine ⟨fun hh => (by cases hh), ?_⟩
      have hc : CallsIn Fence.wide (n - 1) P f args w' _ := callsIn_wide.2 h
      have hc' : CallsIn (wideR rd) (n - 1) P f args w' _ := hc
      refine hc'.mono ?_
      rintro e w2 he
      cases e with
      | returned v => 
        show next (({ a with defers := ds } : Act).put o.dst v) w2
        rw [put_with]; exact hN _ _ he.2
      | panicked chain => exact he.elim
      | outgrown => obtain ⟨_, _, hx⟩ := he; exact hx.elim
    | row r args =>
      rw [Oper.uponIn_row]
      refine ⟨fun hh => (by cases hh), fun c cs _ => ?_⟩
      obtain ⟨v, w2, hq, hs⟩ := h c cs
      refine ⟨v, w2, ?_, stepsIn_wide.2 hs⟩
      show next (({ a with defers := ds } : Act).put o.dst v) w2
      rw [put_with]; exact hN _ _ hq.2
    | _ => exact h.elim
  | halt c w' =>
    rw [hr] at h
    cases c <;> exact h.elim
theorem good_in {op : Op} (hg : Good P F op dst st k) {o : Oper} (ho : o.op = op) (hd : o.dst = dst) (hr : Rel F R0 w0 st a w) {ds : List Deferred} {rd : Option Nat} {n : Nat} {Q : Exit → Act → World → Prop} {next : Act → World → Prop}
    (hk : ∀ st' a' w', k st' → Rel F R0 w0 st' a' w' → next { a' with defers := ds } w') : o.wpIn (wideR rd) n P { a with defers := ds } w next Q :=
  op_in (hg R0 w0 a w o (fun a' w' => a'.defers = a.defers ∧ ∃ st', k st' ∧ Rel F R0 w0 st' a' w') (fun _ _ _ => False) ho hd hr fun st' a' w' h1 h2 => ⟨(by
    obtain ⟨_, _, h3⟩ := h2
    obtain ⟨_, _, h4⟩ := hr
    rw [h3.defers, h4.defers]), st', h1, h2⟩) fun a' w' ⟨st', h1, h2⟩ => hk st' a' w' h1 h2
theorem stepO_in {o : Oper} (hd : dstOk st o.dst) (h : stepO P F st o.dst o.op k) (hr : Rel F R0 w0 st a w) {ds : List Deferred} {rd : Option Nat} {n : Nat} {Q : Exit → Act → World → Prop} {next : Act → World → Prop}
    (hk : ∀ st' a' w', k st' → Rel F R0 w0 st' a' w' → next { a' with defers := ds } w') : o.wpIn (wideR rd) n P { a with defers := ds } w next Q :=
  good_in (stepO_good hd h) rfl rfl hr hk
theorem wo_soundI {ops : Array Oper} {Q : Exit → Act → World → Prop} {rd : Option Nat} {n : Nat} {dfs : List Deferred} : ∀ (l : List Oper) (st : St) (a : Act) (w : World), WO P F (ops.toList.map (·.dst)) l st k → Rel F R0 w0 st a w →
    (∀ st' a' w', k st' → Rel F R0 w0 st' a' w' → Q .normal { a' with defers := dfs } w') → wpListIn (wideR rd) n P ops Q l { a with defers := dfs } w
  | [], st, a, w, h, hr, hk => hk _ _ _ h hr
  | o :: rest, st, a, w, h, hr, hk => by
    have run : ∀ {st : St}, Rel F R0 w0 st a w → dstOk st o.dst → (stepO P F st o.dst o.op fun st' => WO P F (ops.toList.map (·.dst)) rest st' k) → o.wpIn (wideR rd) n P { a with defers := dfs } w (wpListIn (wideR rd) n P ops Q rest) Q := fun hr hd hs =>
      stepO_in hd hs hr fun st' a' w' h' hr' => wo_soundI rest st' a' w' h' hr' hk
    unfold WO at h
    unfold wpListIn
    split at h
    · rename_i hg
      rw [if_pos (by simp [Region.wanted, hg])]
      exact (run hr h.1 h.2)
    · rename_i j want hg
      split at h
      · exact h.elim
      · rename_i t hj
        obtain ⟨ob, R, hrr⟩ := hr
        split at h
        · rename_i hl
          have hy := yielded_dst (tmps := a.tmps) hj (hrr.env t _ hl).1
          split at h
          · rename_i hw
            subst hw
            rw [if_pos (by simp [Region.wanted, hg, hy])]
            exact (run ⟨ob, R, hrr⟩ h.1 h.2)
          · rename_i hw
            have hwf : want = false := by simpa using hw
            subst hwf
            rw [if_neg (by simp [Region.wanted, hg, hy])]
            refine ⟨fun _ _ => trivial, ?_⟩
            rw [put_with]
            exact wo_soundI rest _ (a.put o.dst undef) _ h.2 ⟨ob, R, hrr.put (s := .v undef) (dstOk_of h.1) trivial⟩ hk
        · rename_i hl
          have hy := yielded_dst (tmps := a.tmps) hj (hrr.env t _ hl).1
          split at h
          · rename_i hw
            subst hw
            rw [if_pos (by simp [Region.wanted, hg, hy])]
            exact (run ⟨ob, R, hrr⟩ h.1 h.2)
          · rename_i hw
            have hwf : want = true := by simpa using hw
            subst hwf
            rw [if_neg (by simp [Region.wanted, hg, hy])]
            refine ⟨fun _ _ => trivial, ?_⟩
            rw [put_with]
            exact wo_soundI rest _ (a.put o.dst undef) _ h.2 ⟨ob, R, hrr.put (s := .v undef) (dstOk_of h.1) trivial⟩ hk
        · rename_i vs hl
          have hy : yielded ops a.tmps j = none := yielded_none hj (hrr.env t _ hl).1
          rw [if_neg (by simp [Region.wanted, hg, hy])]
          refine ⟨fun _ _ => trivial, ?_⟩
          rw [put_with]
          exact wo_soundI rest _ (a.put o.dst undef) _ h.2 ⟨ob, R, hrr.put (s := .v undef) (dstOk_of h.1) trivial⟩ hk
        · rename_i x hl
          obtain ⟨_, ht, hf⟩ := h
          have hy := yielded_dst (tmps := a.tmps) hj (hrr.env t _ hl).1
          cases x with
          | true =>
            have h := ht rfl
            have hr' := hrr.know (s' := .tt) hl rfl (fun _ => trivial)
            split at h
            · rename_i hw
              subst hw
              rw [if_pos (by simp [Region.wanted, hg, hy])]
              exact (run ⟨ob, R, hr'⟩ h.1 h.2)
            · rename_i hw
              have hwf : want = false := by simpa using hw
              subst hwf
              rw [if_neg (by simp [Region.wanted, hg, hy])]
              refine ⟨fun _ _ => trivial, ?_⟩
              rw [put_with]
              exact wo_soundI rest _ (a.put o.dst undef) _ h.2 ⟨ob, R, hr'.put (s := .v undef) (dstOk_of h.1) trivial⟩ hk
          | false =>
            have h := hf rfl
            have hr' := hrr.know (s' := .ff) hl rfl (fun _ => trivial)
            split at h
            · rename_i hw
              subst hw
              rw [if_pos (by simp [Region.wanted, hg, hy])]
              exact (run ⟨ob, R, hr'⟩ h.1 h.2)
            · rename_i hw
              have hwf : want = true := by simpa using hw
              subst hwf
              rw [if_neg (by simp [Region.wanted, hg, hy])]
              refine ⟨fun _ _ => trivial, ?_⟩
              rw [put_with]
              exact wo_soundI rest _ (a.put o.dst undef) _ h.2 ⟨ob, R, hr'.put (s := .v undef) (dstOk_of h.1) trivial⟩ hk
        · exact h.elim
/-! ### A call of yield -/
def YieldK (P : Program) (F : Frm) (l : Nat) (args : List SV) (st : St) (dst : Option Tmp) (k : St → Prop) : Prop :=
  ∀ (R0 : Nat → Prop) (w0 : Org) (ob : Nat) (R : Nat → Prop) (a : Act) (w : World), RelR F R0 w0 ob R st a w → (∀ s ∈ args, s.ok R w) →
    ∃ fn tmps assign body, (Instr.yield l (args.map SV.den).toArray).run P w = .ok (.round l fn tmps assign body) w ∧ ∀ n, RoundIn Fence.wide n P l fn tmps assign body w fun e w' =>
      ∃ (r : SV) (st' : St) (R' : Nat → Prop), e = .returned r.den ∧ k (st'.put dst r) ∧ r.ok R' w' ∧ (∃ ob', RelR F R0 w0 ob' R' st' a w') ∧ st'.n = st.n
def yfun : SV → Option Nat
  | .v (.func (.yield l) ts vs) => if ts.size = 0 ∧ vs.size = 0 then some l else none
  | _ => none
theorem yfun_eq {s : SV} {l : Nat} (h : yfun s = some l) : s = .v (.func (.yield l) #[] #[]) := by
  unfold yfun at h
  split at h
  · rename_i l' ts vs
    split at h
    · rename_i hc
      cases h
      rw [Array.eq_empty_of_size_eq_zero hc.1, Array.eq_empty_of_size_eq_zero hc.2]
    · cases h
  · cases h
def asYield (st : St) : Op → Option (Nat × List SV)
  | .call { callee := .value (.tmp t), args := args, argTypes := _ } => (match (look st.env t).bind yfun, evs st.env args.toList with
    | some l, some L => some (l, L)
    | _, _ => none)
  | _ => none
def stepY (P : Program) (F : Frm) (st : St) (dst : Option Tmp) (op : Op) (k : St → Prop) : Prop :=
  match asYield st op with
  | some (l, L) => YieldK P F l L st dst k
  | none => stepO P F st dst op k
theorem stepY_in {o : Oper} (hd : dstOk st o.dst) (h : stepY P F st o.dst o.op k) (hr : Rel F R0 w0 st a w) {ds : List Deferred} {rd : Option Nat} {n : Nat} {Q : Exit → Act → World → Prop} {next : Act → World → Prop}
    (hk : ∀ st' a' w', k st' → Rel F R0 w0 st' a' w' → next { a' with defers := ds } w') : o.wpIn (wideR rd) n P { a with defers := ds } w next Q := by
  unfold stepY at h
  split at h
  · rename_i l L hy
    unfold asYield at hy
    split at hy
    · rename_i t args ts hop
      split at hy
      · rename_i l' L' h1 h2
        cases hy
        obtain ⟨s, hs, hl⟩ := Option.bind_eq_some_iff.1 h1
        have hsv := yfun_eq hl
        subst hsv
        obtain ⟨ob, R, hrr⟩ := hr
        obtain ⟨g1, g2⟩ := evs_ok hrr.env _ _ h2
        obtain ⟨fn, tmps, assign, body, hrun, hround⟩ := h R0 w0 ob R a w hrr g2
        have hargs : args.map a.eval = (L.map SV.den).toArray := by apply Array.ext'; rw [Array.toList_map]; exact g1
        have hev : a.eval (.tmp t) = .func (.yield l) #[] #[] := by simp [Act.eval, (hrr.env t _ hs).1, SV.den]
        refine ⟨fun _ _ => trivial, ?_⟩
        rw [Oper.semAt_eq _ _ _ (fun c hc => by rw [hop] at hc; cases hc), eval_with]
        have hx : (execOp a.eval o).run P w = .ok (.round l fn tmps assign body) w := by
          unfold execOp
          rw [hop]
          simp only [resolve, hev, Deferred.ofValue, Sem.run_bind, Sem.run_pure, Result.andThen_ok, invoke, hargs]
          simpa using hrun
        rw [hx, Oper.uponIn_round]
        refine ⟨fun hh => (by cases hh), ?_⟩
        have hc : RoundIn (wideR rd) (n - 1) P l fn tmps assign body w _ := hround (n - 1)
        refine hc.mono ?_
        rintro e w' ⟨r, st', R', rfl, hk', hrok, ⟨ob', hrel⟩, hn⟩
        show next (({ a with defers := ds } : Act).put o.dst r.den) w'
        rw [put_with]
        exact hk _ _ _ hk' ⟨ob', R', hrel.put (fun t ht => by rw [hn]; exact dstOk_of hd t ht) hrok⟩
      · cases hy
    · cases hy
  · exact stepO_in hd h hr hk
def WOY (P : Program) (F : Frm) (ds : List (Option Tmp)) : List Oper → St → (St → Prop) → Prop
  | [], st, k => k st
  | o :: rest, st, k =>
    match o.guard with
    | none => dstOk st o.dst ∧ stepY P F st o.dst o.op fun st' => WOY P F ds rest st' k
    | some (j, want) => match (ds[j]?).bind id with
      | none => False
      | some t => match look st.env t with
        | some .tt => if want = true then dstOk st o.dst ∧ (stepY P F st o.dst o.op fun st' => WOY P F ds rest st' k) else dstOk st o.dst ∧ WOY P F ds rest (st.put o.dst (.v undef)) k
        | some .ff => if want = false then dstOk st o.dst ∧ (stepY P F st o.dst o.op fun st' => WOY P F ds rest st' k) else dstOk st o.dst ∧ WOY P F ds rest (st.put o.dst (.v undef)) k
        | some (.v (.tuple _)) => dstOk st o.dst ∧ WOY P F ds rest (st.put o.dst (.v undef)) k
        | some (.b x) => t < st.n ∧ (x = true → if want = true then dstOk (st.put (some t) .tt) o.dst ∧ (stepY P F (st.put (some t) .tt) o.dst o.op fun st' => WOY P F ds rest st' k) else dstOk (st.put (some t) .tt) o.dst ∧ WOY P F ds rest ((st.put (some t) .tt).put o.dst (.v undef)) k) ∧
            (x = false → if want = false then dstOk (st.put (some t) .ff) o.dst ∧ (stepY P F (st.put (some t) .ff) o.dst o.op fun st' => WOY P F ds rest st' k) else dstOk (st.put (some t) .ff) o.dst ∧ WOY P F ds rest ((st.put (some t) .ff).put o.dst (.v undef)) k)
        | _ => False
theorem woy_sound {ops : Array Oper} {Q : Exit → Act → World → Prop} {rd : Option Nat} {n : Nat} {dfs : List Deferred} : ∀ (l : List Oper) (st : St) (a : Act) (w : World), WOY P F (ops.toList.map (·.dst)) l st k → Rel F R0 w0 st a w →
    (∀ st' a' w', k st' → Rel F R0 w0 st' a' w' → Q .normal { a' with defers := dfs } w') → wpListIn (wideR rd) n P ops Q l { a with defers := dfs } w
  | [], st, a, w, h, hr, hk => hk _ _ _ h hr
  | o :: rest, st, a, w, h, hr, hk => by
    have run : ∀ {st : St}, Rel F R0 w0 st a w → dstOk st o.dst → (stepY P F st o.dst o.op fun st' => WOY P F (ops.toList.map (·.dst)) rest st' k) → o.wpIn (wideR rd) n P { a with defers := dfs } w (wpListIn (wideR rd) n P ops Q rest) Q := fun hr hd hs =>
      stepY_in hd hs hr fun st' a' w' h' hr' => woy_sound rest st' a' w' h' hr' hk
    unfold WOY at h
    unfold wpListIn
    split at h
    · rename_i hg
      rw [if_pos (by simp [Region.wanted, hg])]
      exact (run hr h.1 h.2)
    · rename_i j want hg
      split at h
      · exact h.elim
      · rename_i t hj
        obtain ⟨ob, R, hrr⟩ := hr
        split at h
        · rename_i hl
          have hy := yielded_dst (tmps := a.tmps) hj (hrr.env t _ hl).1
          split at h
          · rename_i hw
            subst hw
            rw [if_pos (by simp [Region.wanted, hg, hy])]
            exact (run ⟨ob, R, hrr⟩ h.1 h.2)
          · rename_i hw
            have hwf : want = false := by simpa using hw
            subst hwf
            rw [if_neg (by simp [Region.wanted, hg, hy])]
            refine ⟨fun _ _ => trivial, ?_⟩
            rw [put_with]
            exact woy_sound rest _ (a.put o.dst undef) _ h.2 ⟨ob, R, hrr.put (s := .v undef) (dstOk_of h.1) trivial⟩ hk
        · rename_i hl
          have hy := yielded_dst (tmps := a.tmps) hj (hrr.env t _ hl).1
          split at h
          · rename_i hw
            subst hw
            rw [if_pos (by simp [Region.wanted, hg, hy])]
            exact (run ⟨ob, R, hrr⟩ h.1 h.2)
          · rename_i hw
            have hwf : want = true := by simpa using hw
            subst hwf
            rw [if_neg (by simp [Region.wanted, hg, hy])]
            refine ⟨fun _ _ => trivial, ?_⟩
            rw [put_with]
            exact woy_sound rest _ (a.put o.dst undef) _ h.2 ⟨ob, R, hrr.put (s := .v undef) (dstOk_of h.1) trivial⟩ hk
        · rename_i vs hl
          have hy : yielded ops a.tmps j = none := yielded_none hj (hrr.env t _ hl).1
          rw [if_neg (by simp [Region.wanted, hg, hy])]
          refine ⟨fun _ _ => trivial, ?_⟩
          rw [put_with]
          exact woy_sound rest _ (a.put o.dst undef) _ h.2 ⟨ob, R, hrr.put (s := .v undef) (dstOk_of h.1) trivial⟩ hk
        · rename_i x hl
          obtain ⟨_, ht, hf⟩ := h
          have hy := yielded_dst (tmps := a.tmps) hj (hrr.env t _ hl).1
          cases x with
          | true =>
            have h := ht rfl
            have hr' := hrr.know (s' := .tt) hl rfl (fun _ => trivial)
            split at h
            · rename_i hw
              subst hw
              rw [if_pos (by simp [Region.wanted, hg, hy])]
              exact (run ⟨ob, R, hr'⟩ h.1 h.2)
            · rename_i hw
              have hwf : want = false := by simpa using hw
              subst hwf
              rw [if_neg (by simp [Region.wanted, hg, hy])]
              refine ⟨fun _ _ => trivial, ?_⟩
              rw [put_with]
              exact woy_sound rest _ (a.put o.dst undef) _ h.2 ⟨ob, R, hr'.put (s := .v undef) (dstOk_of h.1) trivial⟩ hk
          | false =>
            have h := hf rfl
            have hr' := hrr.know (s' := .ff) hl rfl (fun _ => trivial)
            split at h
            · rename_i hw
              subst hw
              rw [if_pos (by simp [Region.wanted, hg, hy])]
              exact (run ⟨ob, R, hr'⟩ h.1 h.2)
            · rename_i hw
              have hwf : want = true := by simpa using hw
              subst hwf
              rw [if_neg (by simp [Region.wanted, hg, hy])]
              refine ⟨fun _ _ => trivial, ?_⟩
              rw [put_with]
              exact woy_sound rest _ (a.put o.dst undef) _ h.2 ⟨ob, R, hr'.put (s := .v undef) (dstOk_of h.1) trivial⟩ hk
        · exact h.elim
/-! ### Code in a round's frame, or behind a range over a function -/
def SatJ (P : Program) (F : Frm) (rd : Option Nat) (c : Code) (ds : List Deferred) (st : St) (K : Exit → List Deferred → St → Prop) : Prop :=
  ∀ (R0 : Nat → Prop) (w0 : Org) (a : Act) (w : World), Rel F R0 w0 st a w → ∀ n, c.wpIn (wideR rd) n P (fun e a' w' => ∃ st' ds' a1, K e ds' st' ∧ Rel F R0 w0 st' a1 w' ∧ a' = { a1 with defers := ds' }) { a with defers := ds } w
def thenJ (next : List Deferred → St → Prop) (K : Exit → List Deferred → St → Prop) : Exit → List Deferred → St → Prop
  | .normal, ds, st => next ds st
  | e, ds, st => K e ds st
def blockJ (id : Nat) (K : Exit → List Deferred → St → Prop) : Exit → List Deferred → St → Prop
  | .exit id', ds, st => if id' = id then K .normal ds st else K (.exit id') ds st
  | e, ds, st => K e ds st
theorem with_nil {a : Act} (h : a.defers = []) : ({ a with defers := [] } : Act) = a := by cases a; simp at h; simp [h]
theorem Rel.defers (h : Rel F R0 w0 st a w) : a.defers = [] := by obtain ⟨_, _, h⟩ := h; exact h.defers
variable {rd : Option Nat} {ds : List Deferred} {K : Exit → List Deferred → St → Prop}
theorem SatJ.mono {c : Code} {K' : Exit → List Deferred → St → Prop} (h : SatJ P F rd c ds st K) (hk : ∀ e ds st, K e ds st → K' e ds st) : SatJ P F rd c ds st K' :=
  fun R0 w0 a w hr n => Go.wpIn_mono (h R0 w0 a w hr n) fun e a' w' ⟨st', ds', a1, h1, h2⟩ => ⟨st', ds', a1, hk e ds' st' h1, h2⟩
theorem SatJ.of_sat {c : Code} (h : Sat P F c st fun e st' => K e [] st') : SatJ P F none c [] st K := fun R0 w0 a w hr n => by
  rw [with_nil hr.defers]
  refine Go.wpIn_mono (wpIn_wide.2 (h R0 w0 a w hr)) ?_
  rintro e a' w' ⟨st', hk, hr'⟩
  exact ⟨st', [], a', hk, hr', (with_nil hr'.defers).symm⟩
theorem SatJ.to_sat {c : Code} {K : Exit → St → Prop} (h : SatJ P F none c [] st fun e ds st' => ds = [] ∧ K e st') : Sat P F c st K := fun R0 w0 a w hr => by
  have h0 := h R0 w0 a w hr 0
  rw [with_nil hr.defers] at h0
  refine wp_mono (wpIn_wide.1 h0) ?_
  rintro e a' w' ⟨st', ds', a1, ⟨rfl, hk⟩, hr', rfl⟩
  rw [with_nil hr'.defers]
  exact ⟨st', hk, hr'⟩
theorem SatJ.skip (h : K .normal ds st) : SatJ P F rd .skip ds st K := fun R0 w0 a w hr n => wpIn_skip ⟨st, ds, a, h, hr, rfl⟩
theorem SatJ.label {l : Nat} (h : K .normal ds st) : SatJ P F rd (.label l) ds st K := fun R0 w0 a w hr n => wpIn_label ⟨st, ds, a, h, hr, rfl⟩
theorem SatJ.exit {id : Nat} (h : K (.exit id) ds st) : SatJ P F rd (.exit id) ds st K := fun R0 w0 a w hr n => wpIn_exit ⟨st, ds, a, h, hr, rfl⟩
theorem SatJ.ret (h : K .ret ds st) : SatJ P F rd .ret ds st K := fun R0 w0 a w hr n => wpIn_ret ⟨st, ds, a, h, hr, rfl⟩
theorem SatJ.seq {x y : Code} (h : SatJ P F rd x ds st (thenJ (fun ds' st' => SatJ P F rd y ds' st' K) K)) : SatJ P F rd (.seq x y) ds st K := by
  intro R0 w0 a w hr n
  refine wpIn_seq (Go.wpIn_mono (h R0 w0 a w hr n) ?_)
  rintro e a' w' ⟨st', ds', a1, hk, hr', rfl⟩
  cases e with
  | normal => exact hk R0 w0 a1 w' hr' n
  | _ => exact ⟨st', ds', a1, hk, hr', rfl⟩
theorem SatJ.block {id : Nat} {c : Code} (h : SatJ P F rd c ds st (blockJ id K)) : SatJ P F rd (.block id c) ds st K := by
  intro R0 w0 a w hr n
  refine wpIn_block (Go.wpIn_mono (h R0 w0 a w hr n) ?_)
  rintro e a' w' ⟨st', ds', a1, hk, hr', rfl⟩
  cases e with
  | exit id' =>
    simp only [blockJ] at hk
    simp only [Exit.inBlock]
    split at hk
    · rename_i e; rw [if_pos e]; exact ⟨st', ds', a1, hk, hr', rfl⟩
    · rename_i e; rw [if_neg e]; exact ⟨st', ds', a1, hk, hr', rfl⟩
  | _ => exact ⟨st', ds', a1, hk, hr', rfl⟩
theorem SatJ.cond_tt {c : Operand} {x y : Code} (hc : ev st.env c = some .tt) (h : SatJ P F rd x ds st K) : SatJ P F rd (.cond c x y) ds st K := by
  rintro R0 w0 a w ⟨ob, R, hr⟩ n
  exact wpIn_cond_true (by rw [eval_with]; exact (ev_ok hr.env hc).1) (h R0 w0 a w ⟨ob, R, hr⟩ n)
theorem SatJ.cond_ff {c : Operand} {x y : Code} (hc : ev st.env c = some .ff) (h : SatJ P F rd y ds st K) : SatJ P F rd (.cond c x y) ds st K := by
  rintro R0 w0 a w ⟨ob, R, hr⟩ n
  exact wpIn_cond_false (by rw [eval_with]; exact (ev_ok hr.env hc).1) (h R0 w0 a w ⟨ob, R, hr⟩ n)
theorem SatJ.cond_b {c : Operand} {x y : Code} {b : Bool} (hc : ev st.env c = some (.b b)) (ht : b = true → SatJ P F rd x ds st K) (hf : b = false → SatJ P F rd y ds st K) : SatJ P F rd (.cond c x y) ds st K := by
  rintro R0 w0 a w ⟨ob, R, hr⟩ n
  have := (ev_ok hr.env hc).1
  rw [← eval_with a ds] at this
  exact wpIn_cond_split this (fun h => ht h R0 w0 a w ⟨ob, R, hr⟩ n) (fun h => hf h R0 w0 a w ⟨ob, R, hr⟩ n)
theorem SatJ.le {c : Code} {st' : St} (h : SatJ P F rd c ds st' K) (hl : Le st st') : SatJ P F rd c ds st K := fun R0 w0 a w hr n => h R0 w0 a w (hr.le hl) n
theorem SatJ.region {id : Nat} {l : List Oper} (h : WO P F (l.map (·.dst)) l st (K .normal ds)) : SatJ P F rd (.region id l.toArray false) ds st K := by
  intro R0 w0 a w hr n
  refine wpIn_region_lit ?_
  exact wo_soundI (ops := l.toArray) (k := K .normal ds) l st a w (by simpa using h) hr fun st' a' w' hk hr' => ⟨st', ds, a', hk, hr', rfl⟩
theorem SatJ.regionY {id : Nat} {l : List Oper} (h : WOY P F (l.map (·.dst)) l st (K .normal ds)) : SatJ P F rd (.region id l.toArray false) ds st K := by
  intro R0 w0 a w hr n
  refine wpIn_region_lit ?_
  exact woy_sound (ops := l.toArray) (k := K .normal ds) l st a w (by simpa using h) hr fun st' a' w' hk hr' => ⟨st', ds, a', hk, hr', rfl⟩
theorem SatJ.loop {c : Code} {ι : Type} (sh : ι → St) (I : ι → Prop) (μ : ι → Nat) (x0 : ι) (h0 : I x0) (hl : Le st (sh x0))
    (h : ∀ x, I x → SatJ P F rd c ds (sh x) (thenJ (fun ds' st' => ds' = ds ∧ ∃ y, I y ∧ μ y < μ x ∧ Le st' (sh y)) K)) : SatJ P F rd (.loop c) ds st K := by
  intro R0 w0 a w hr n
  refine wpIn_loop_ghost (fun m a' w' => ∃ y a1, I y ∧ μ y = m ∧ Rel F R0 w0 (sh y) a1 w' ∧ a' = { a1 with defers := ds }) (μ x0) ⟨x0, a, h0, rfl, hr.le hl, rfl⟩ ?_
  rintro m a' w' ⟨y, a1, hy, rfl, hry, rfl⟩
  refine Go.wpIn_mono (h y hy R0 w0 a1 w' hry n) ?_
  rintro e a2 w2 ⟨st', ds', a3, hk, hr2, rfl⟩
  cases e with
  | normal =>
    obtain ⟨rfl, z, hz, hlt, hle⟩ := hk
    exact ⟨μ z, hlt, z, a3, hz, rfl, hr2.le hle, rfl⟩
  | _ => exact ⟨st', ds', a3, hk, hr2, rfl⟩
/-! ### A loop's record, as an object of the call's own -/
def tmpsOk (env : List (Nat × SV)) (n : Nat) (tmps : Array Value) : Prop := n ≤ tmps.size ∧ ∀ t s, look env t = some s → tmps[t]? = some s.den
def recP (l : Nat) (state : LoopState) (pending : Option Code) (env : List (Nat × SV)) (n : Nat) (ps : Array Tmp) (assign body : Code) (D : Nat) (w : World) : Prop :=
  ∃ fn tmps, w.heap[l]? = some (.loop { state, pending, fn, tmps, params := ps, assign, body, defers := D }) ∧ tmpsOk env n tmps
abbrev recO (l : Nat) (state : LoopState) (pending : Option Code) (env : List (Nat × SV)) (n : Nat) (ps : Array Tmp) (assign body : Code) (D : Nat) : Own :=
  .res l (recP l state pending env n ps assign body D)
def plainEnv (env : List (Nat × SV)) : Prop := ∀ t s, look env t = some s → ∀ R w, s.ok R w
theorem RelR.setRes (h : RelR F R0 w0 ob R st a w) {i l : Nat} {p p' : World → Prop} (hi : st.own[i]? = some (.res l p)) {o : Obj} (hp : ∀ w'' : World, w''.heap[l]? = some o → p' w'') :
    RelR F R0 w0 ob R { st with own := st.own.set i (.res l p') } a (w.putObj l o) := by
  obtain ⟨h1, h2, h3, h4⟩ := h.own i _ hi
  refine h.setOwn hi (g := l) rfl (fun b hb => by cases hb; rfl) rfl rfl rfl (by simp) (fun b _ hne => World.putObj_heap_other hne) ⟨h1, h2, by simpa using h3, fun w'' hw => hp w'' ?_⟩
  rw [hw l (.inr rfl)]
  exact World.putObj_heap_same h3
theorem RelR.res_now (h : RelR F R0 w0 ob R st a w) {i l : Nat} {p : World → Prop} (hi : st.own[i]? = some (.res l p)) : p w :=
  (h.own i _ hi).2.2.2 w fun _ _ => rfl
theorem RelR.back {a' : Act} {w' : World} {st' : St} (h : RelR F R0 w0 ob R st a w) (h' : Rel F R ⟨w, fun b => ∃ (i : Nat) (o : Own), st.own[i]? = some o ∧ o.blk = some b⟩ st' a' w') :
    ∃ ob' R', RelR F R0 w0 ob' R' { st with own := st'.own } a w' := by
  obtain ⟨ob1, R1, h1⟩ := h'
  have hkeep : ∀ b, R b → w'.heap[b]? = w.heap[b]? := fun b hb => h1.evo.block b (h.rr b hb).1 (by
    rintro (hm | ⟨i, o, ho, hob⟩)
    · exact (h.rr b hb).2.1 hm
    · exact (Own.blk_lt (h.own i o ho) hob).2.2 hb)
  obtain ⟨ob', R', hu⟩ := h.unbase ⟨ob1, R1, h1⟩
  have hu0 : RelR F R0 w0 ob1 R1 st' a' w' := by
    obtain ⟨ob2, R2, hu2⟩ := h.unbase ⟨ob1, R1, h1⟩
    have hG : ∀ b, (∃ (i : Nat) (o : Own), st.own[i]? = some o ∧ o.blk = some b) → w0.w.heap.size ≤ b ∨ w0.G b := fun b ⟨i, o, ho, hb⟩ => h.gb i o ho b hb
    have hs := h.evo.size
    refine ⟨h1.defers, h1.env, h1.size, h1.own, h1.dist, hu2.evo, h1.inv, h1.obM, fun i o ho b hb => ?_, h1.obw, fun b hb => ?_, fun b hb => h1.r0 b (h.r0 b hb)⟩
    · rcases h1.gb i o ho b hb with h9 | h9
      · have h9' : w.heap.size ≤ b := h9
        exact .inl (by omega)
      · exact hG b h9
    · obtain ⟨g1, g2, g3⟩ := h1.rr b hb
      refine ⟨g1, g2, ?_⟩
      rcases g3 with g3 | g3 | g3
      · exact (h.rr b g3).2.2
      · have g3' : w.heap.size ≤ b := g3
        exact .inr (.inl (by omega))
      · rcases hG b g3 with h9 | h9
        · exact .inr (.inl h9)
        · exact .inr (.inr h9)
  exact ⟨ob1, R1, h.defers, fun t s ht => ⟨(h.env t s ht).1, SV.ok_mono (fun b hb => h1.r0 b hb) hkeep s (h.env t s ht).2⟩, h.size, hu0.own, hu0.dist, hu0.evo, hu0.inv, hu0.obM, hu0.gb, hu0.obw, hu0.rr, hu0.r0⟩
def jumpOf : Exit → Option (Option Code)
  | .normal => some none
  | .ret => some (some .ret)
  | .exit id => some (some (.exit id))
  | _ => none
theorem yieldK_of {l i : Nat} {p : Tmp} {assign body : Code} {D nC : Nat} {envC : List (Nat × SV)} {s : SV}
    (hi : st.own[i]? = some (recO l .ready none envC nC #[p] assign body D)) (hp : p < nC) (hpl : plainEnv envC)
    (h : SatJ P F (some l) assign [] ⟨nC, (p, s) :: envC, st.own⟩ (thenJ (fun ds1 st1 => ds1 = [] ∧ st1.own[i]? = some (recO l .ready none envC nC #[p] assign body D) ∧
      SatJ P F (some l) body [] { st1 with own := st1.own.set i (recO l .busy none envC nC #[p] assign body D) } fun e ds2 st2 => st2.own[i]? = some (recO l .busy none envC nC #[p] assign body D) ∧
        match jumpOf e with
        | some j => k (({ st with own := st2.own.set i (recO l (if j.isNone then .ready else .done) j envC nC #[p] assign body D) } : St).put dst (if j.isNone then .tt else .ff))
        | none => False) fun _ _ _ => False)) :
    YieldK P F l [s] st dst k := by
  intro R0 w0 ob R a w hrel hargs
  obtain ⟨fn, tmps, hl, hn, ht⟩ := hrel.res_now hi
  refine ⟨fn, tmps.setIfInBounds p s.den, assign, body, by rw [run_yield hl (by simp)]; simp, fun n => ?_⟩
  refine roundIn_of_wpIn (F := Fence.wide) trivial ?_
  have hb := hrel.rebase
  have relC : Rel F R ⟨w, fun b => ∃ (i : Nat) (o : Own), st.own[i]? = some o ∧ o.blk = some b⟩ ⟨nC, (p, s) :: envC, st.own⟩ { tmps := tmps.setIfInBounds p s.den, defers := [] } w := by
    refine ⟨ob, R, rfl, ?_, by simpa using hn, hb.own, hb.dist, hb.evo, hb.inv, hb.obM, hb.gb, hb.obw, hb.rr, hb.r0⟩
    intro t s' hts
    simp only [look] at hts
    split at hts
    · rename_i e
      subst e
      simp only [Option.some.injEq] at hts
      subst hts
      have : p < tmps.size := Nat.lt_of_lt_of_le hp hn
      exact ⟨by simp [this], hargs _ (by simp)⟩
    · rename_i e
      exact ⟨by rw [Array.getElem?_setIfInBounds_ne e]; exact ht t s' hts, hpl t s' hts _ _⟩
  refine Go.wpIn_mono (h R _ _ w relC n) ?_
  rintro e a1 w1 ⟨st1, ds1, a1', hk1, hr1, rfl⟩
  cases e with
  | normal =>
    obtain ⟨rfl, hi1, hbody⟩ := hk1
    obtain ⟨ob1, R1, hr1⟩ := hr1
    obtain ⟨fn1, tmps1, hl1, ht1⟩ := hr1.res_now hi1
    refine ⟨_, run_beginRound hl1 rfl, ?_⟩
    have hr2 := hr1.setRes hi1 (p' := recP l .busy none envC nC #[p] assign body D) (o := .loop { state := .busy, pending := none, fn := fn1, tmps := tmps1, params := #[p], assign, body, defers := D }) (fun w'' hw => ⟨fn1, tmps1, hw, ht1⟩)
    refine Go.wpIn_mono (hbody R _ a1' _ ⟨ob1, R1, hr2⟩ n) ?_
    rintro e2 a2 w2 ⟨st2, ds2, a2', ⟨hi2, hk2⟩, ⟨ob2, R2, hr3⟩, rfl⟩
    obtain ⟨fn2, tmps2, hl2, ht2⟩ := hr3.res_now hi2
    have key : ∀ j : Option Code, k (({ st with own := st2.own.set i (recO l (if j.isNone then .ready else .done) j envC nC #[p] assign body D) } : St).put dst (if j.isNone then .tt else .ff)) →
        ∃ v w', (Instr.endRound l j).run P w2 = .ok v w' ∧ (fun e w' => ∃ (r : SV) (st' : St) (R' : Nat → Prop), e = Ending.returned r.den ∧ k (st'.put dst r) ∧ r.ok R' w' ∧ (∃ ob', RelR F R0 w0 ob' R' st' a w') ∧ st'.n = st.n) (.returned v) w' := by
      intro j hj
      refine ⟨_, _, run_endRound j hl2, if j.isNone then .tt else .ff, { st with own := st2.own.set i (recO l (if j.isNone then .ready else .done) j envC nC #[p] assign body D) }, ?_⟩
      have hr4 := hr3.setRes hi2 (p' := recP l (if j.isNone then .ready else .done) j envC nC #[p] assign body D) (o := .loop { state := if j.isNone then .ready else .done, pending := j, fn := fn2, tmps := tmps2, params := #[p], assign, body, defers := D }) (fun w'' hw => ⟨fn2, tmps2, hw, ht2⟩)
      obtain ⟨ob5, R5, h5⟩ := hrel.back ⟨ob2, R2, hr4⟩
      refine ⟨R5, ?_, hj, ?_, ⟨ob5, h5⟩, rfl⟩
      · cases j <;> rfl
      · cases j <;> trivial
    cases e2 with
    | normal => exact key none hk2
    | ret => exact key (some .ret) hk2
    | exit id => exact key (some (.exit id)) hk2
    | _ => exact hk2.elim
  | _ => exact hk1.elim
theorem RelR.freshRes (h : RelR F R0 w0 ob R st a w) {o : Obj} {p : World → Prop} (hp : ∀ w'' : World, w''.heap[w.heap.size]? = some o → p w'') :
    RelR F R0 w0 ob R { st with own := st.own ++ [.res w.heap.size p] } a (w.alloc o) := by
  have hold : ∀ b, b < w.heap.size → (w.alloc o).heap[b]? = w.heap[b]? := fun b hb => heap_alloc_old w _ hb
  have hblk : ∀ b, (Own.res w.heap.size p).blk = some b → b = w.heap.size := fun b hb => by cases hb; rfl
  refine h.turn (fun _ => False) rfl rfl rfl (by simp) (fun _ h => h.elim) (fun b hb _ => hold b hb) (fun _ h => h) (fun _ h => .inl h) ?_ ?_ (gb_append h.evo.size h.gb hblk)
  · intro i x hx
    rcases get_append_one hx with hx | ⟨_, rfl⟩
    · exact Own.ok_keep (h.own i x hx) (fun _ h => h) (fun _ _ h => h) (fun b hr => hold b (h.rr b hr).1) (fun b hb => hold b (Own.blk_lt (h.own i x hx) hb).2.1)
    · exact ⟨h.obw, fun hr => Nat.lt_irrefl _ (h.rr _ hr).1, by simp, fun w'' hw => hp w'' (by rw [hw _ (.inr rfl)]; exact World.alloc_heap_new w o)⟩
  · intro i j o1 o2 hij h1 h2 b hb1 hb2
    rcases get_append_one h1 with g1 | ⟨hi, rfl⟩ <;> rcases get_append_one h2 with g2 | ⟨hj, rfl⟩
    · exact h.dist i j o1 o2 hij g1 g2 b hb1 hb2
    · have := (Own.blk_lt (h.own i o1 g1) hb1).2.1
      have := hblk b hb2
      omega
    · have := (Own.blk_lt (h.own j o2 g2) hb2).2.1
      have := hblk b hb1
      omega
    · omega
def defP (D : Nat) (w : World) : Prop := w.heap[D]? = some (.deferred (some []))
abbrev markD (D : Nat) : Deferred := { target := .collected D, args := #[] }
def iterK (st : St) (l D : Nat) (env : List (Nat × SV)) (ps : Array Tmp) (assign body : Code) (K : Exit → List Deferred → St → Prop) (e : Exit) (ds' : List Deferred) (st' : St) : Prop :=
  (e = .normal ∨ e = .ret) ∧ ds' = [] ∧ ∃ state pend, state ≠ .busy ∧ st'.own[st.own.length + 1]? = some (recO l state pend env st.n ps assign body D) ∧
    match pend with
    | none => K .normal [markD D] { st with own := st'.own.set (st.own.length + 1) (.res l fun _ => True) }
    | some .ret => K .ret [markD D] { st with own := st'.own.set (st.own.length + 1) (.res l fun _ => True) }
    | some (.exit id) => K (.exit id) [markD D] { st with own := st'.own.set (st.own.length + 1) (.res l fun _ => True) }
    | _ => False
theorem SatJ.rangeFunc {g : Operand} {q : Tmp} {assign body : Code} {f : FuncId} {nf : Nat} {rdv : Nat → SV} {fn : Func} {c : Code} (envR : List (Nat × SV))
    (hg : ev st.env g = some (.fn f nf rdv)) (hf : P.funcs[f]? = some fn) (hb : fn.body = some c) (hname : (fn.name == "runtime.NumGoroutine") = false) (hres : fn.results = #[])
    (hle : envLe st.env envR)
    (h : ∀ l D, SatJ P F none c [] ⟨fn.ntmps, argEnv 0 (.v (.func (.yield l) #[] #[]) :: (List.range nf).map rdv), st.own ++ [.res D (defP D), recO l .ready none envR st.n #[q] assign body D]⟩ (iterK st l D envR #[q] assign body K)) :
    SatJ P F none (.rangeFunc g #[q] assign body) [] st K := by
  rintro R0 w0 a w ⟨ob, R, hr⟩ n
  rw [with_nil hr.defers]
  refine wpIn_rangeFunc (F := Fence.wide) fun fn0 _ => ?_
  obtain ⟨hev, hok⟩ := ev_ok hr.env hg
  have henR := envLe_ok hr.env hle
  have hn : ¬ fn.name = "runtime.NumGoroutine" := by simpa using hname
  have eg : ∀ vs w, (callFunc f vs).run P w = .ok (.enter f vs) w := fun vs w => by simp [callFunc, hf, hn, hb]
  obtain ⟨args, hargs⟩ : ∃ args : List SV, args = .v (.func (.yield (w.heap.size + 1)) #[] #[]) :: (List.range nf).map rdv := ⟨_, rfl⟩
  have h1 := hr.rebase.freshRes (o := .deferred (some [])) (p := defP w.heap.size) (fun w'' hw => hw)
  have h2 := h1.freshRes (o := .loop { state := .ready, pending := none, fn := fn0, tmps := a.tmps, params := #[q], assign, body, defers := w.heap.size }) (p := recP (w.heap.size + 1) .ready none envR st.n #[q] assign body w.heap.size)
    (fun w'' hw => ⟨fn0, a.tmps, by simpa using hw, hr.size, fun t s ht => (henR t s ht).1⟩)
  obtain ⟨W1, hW1⟩ : ∃ W1, W1 = ((w.alloc (.deferred (some []))).alloc (.loop { state := .ready, pending := none, fn := fn0, tmps := a.tmps, params := #[q], assign, body, defers := w.heap.size })) := ⟨_, rfl⟩
  rw [← hW1] at h2
  refine ⟨w.heap.size + 1, [markD w.heap.size], W1, { target := .fn (.func f) ((List.range nf).map fun j => (rdv j).den).toArray, args := #[.func (.yield (w.heap.size + 1)) #[] #[]] }, W1, f, (args.map SV.den).toArray, W1, (by rw [hW1]; exact run_enterLoop_outer _ _ _ _ _), ?_, fun _ _ => trivial, ?_, fun hh => (by cases hh), ?_⟩
  · simp only [resolve, hev, SV.den]
    simp [go_sem, Act.eval]
  · rw [hargs]; simp [invoke, go_sem, eg, Function.comp_def, SV.den]
  · refine callsIn_wide.2 (calls_of_wp hf hb ?_)
    have hsz : (w.alloc (.deferred (some []))).heap.size = w.heap.size + 1 := World.size_alloc _ _
    have hrel : Rel F R ⟨w, fun b => ∃ (i : Nat) (o : Own), st.own[i]? = some o ∧ o.blk = some b⟩ ⟨fn.ntmps, argEnv 0 args, st.own ++ [.res w.heap.size (defP w.heap.size), recO (w.heap.size + 1) .ready none envR st.n #[q] assign body w.heap.size]⟩
        { tmps := (args.map SV.den).toArray ++ Array.replicate (fn.ntmps - (args.map SV.den).toArray.size) undef, defers := [] } W1 := by
      have hown : st.own ++ [Own.res w.heap.size (defP w.heap.size), recO (w.heap.size + 1) .ready none envR st.n #[q] assign body w.heap.size] = (st.own ++ [.res w.heap.size (defP w.heap.size)]) ++ [.res (w.alloc (.deferred (some []))).heap.size (recP (w.heap.size + 1) .ready none envR st.n #[q] assign body w.heap.size)] := by
        rw [hsz, List.append_assoc]; rfl
      rw [hown]
      refine ⟨ob, R, rfl, ?_, by simp; omega, h2.own, h2.dist, h2.evo, h2.inv, h2.obM, h2.gb, h2.obw, h2.rr, h2.r0⟩
      intro t s ht
      obtain ⟨j, rfl, hj⟩ := look_argEnv args 0 t s ht
      have hlt := (List.getElem?_eq_some_iff.1 hj).1
      refine ⟨?_, ?_⟩
      · rw [Nat.zero_add, Array.getElem?_append_left (by simpa using hlt)]
        simp [hj]
      · have hm := List.mem_of_getElem? hj
        rw [hargs] at hm
        rcases List.mem_cons.1 hm with rfl | hm
        · trivial
        · obtain ⟨j2, hj2, rfl⟩ := List.mem_map.1 hm
          exact SV.ok_mono (fun _ h => h) (fun b hb => by
            have hlt := (hr.rr b hb).1
            rw [hW1, heap_alloc_old _ _ (by rw [hsz]; omega), heap_alloc_old _ _ hlt]) _ (hok j2 (by simpa using hj2))
    have hw := h (w.heap.size + 1) w.heap.size
    rw [← hargs] at hw
    have hw := hw R _ _ _ hrel 0
    refine wp_mono (wpIn_wide.1 hw) ?_
    rintro e a' w' ⟨st', ds', a1, ⟨he, rfl, state, pend, hst, hi, hK⟩, ⟨ob1, R1, hr1⟩, rfl⟩
    obtain ⟨fn1, tmps1, hl1, ht1⟩ := hr1.res_now hi
    have fin : ∃ v, (results fn ({ a1 with defers := [] } : Act).tmps).run P w' = .ok v w' ∧ rangePost Fence.wide n P (w.heap.size + 1) (fun e a' w' => ∃ st' ds' a1, K e ds' st' ∧ Rel F R0 w0 st' a1 w' ∧ a' = { a1 with defers := ds' }) { a with defers := [markD w.heap.size] ++ a.defers } (.returned v) w' := by
      refine ⟨.tuple #[], by unfold results; rw [hres]; simp [go_sem], pend, _, run_endLoop hl1 hst, ?_⟩
      have hr2 := hr1.setRes hi (p' := fun _ => True) (o := .loop { state := .exhausted, pending := pend, fn := fn1, tmps := tmps1, params := #[q], assign, body, defers := w.heap.size }) (fun w'' hw => trivial)
      obtain ⟨ob5, R5, h5⟩ := hr.back ⟨ob1, R1, hr2⟩
      have hd : ({ a with defers := [markD w.heap.size] ++ a.defers } : Act) = { a with defers := [markD w.heap.size] } := by rw [hr.defers]; rfl
      rw [hd]
      cases pend with
      | none => exact ⟨_, _, a, hK, ⟨ob5, R5, h5⟩, rfl⟩
      | some c' =>
        cases c' with
        | ret => exact wpIn_ret ⟨_, _, a, hK, ⟨ob5, R5, h5⟩, rfl⟩
        | exit id => exact wpIn_exit ⟨_, _, a, hK, ⟨ob5, R5, h5⟩, rfl⟩
        | _ => exact hK.elim
    rcases he with rfl | rfl
    · exact ⟨rfl, fin⟩
    · exact ⟨rfl, fin⟩
def retJ (P : Program) (rs : List ResultVar) (post : SV → Prop) (e : Exit) (ds : List Deferred) (st : St) : Prop :=
  (e = .normal ∨ e = .ret) ∧ ∃ D i, ds = [markD D] ∧ st.own[i]? = some (.res D (defP D)) ∧
    resHolds P { st with own := st.own.set i (.res D fun _ => True) } rs fun l => post (resOf (st.own.set i (.res D fun _ => True)) l)
theorem contractJ_of {f : FuncId} {fn : Func} {c : Code} {args : List SV} {post : SV → Prop} (hf : P.funcs[f]? = some fn) (hb : fn.body = some c) (hname : (fn.name == "runtime.NumGoroutine") = false)
    (h : SatJ P F none c [] ⟨fn.ntmps, argEnv 0 args, []⟩ (retJ P fn.results.toList post)) : Contract F P f args post := by
  refine ⟨fun vs w => ?_, fun R w hinv hargs hR => ?_⟩
  · have hn : ¬ fn.name = "runtime.NumGoroutine" := by simpa using hname
    simp [callFunc, hf, hn, hb]
  · refine (callsIn_wide (n := 0)).1 (callsIn_of_wp_marks hf hb trivial ?_ rfl)
    have hrel : RelR F R ⟨w, fun _ => False⟩ w.heap.size R ⟨fn.ntmps, argEnv 0 args, []⟩ { tmps := (args.map SV.den).toArray ++ Array.replicate (fn.ntmps - (args.map SV.den).toArray.size) undef, defers := [] } w := by
      refine ⟨rfl, ?_, ?_, fun i o ho => by simp at ho, fun i j o o' _ ho => by simp at ho, Evo.refl _ _, hinv, fun b hb => F.lt w b hinv hb, fun i o ho => by simp at ho, Nat.le_refl _, fun b hb => ⟨(hR b hb).1, (hR b hb).2, .inl hb⟩, fun _ h => h⟩
      · intro t s ht
        obtain ⟨j, rfl, hj⟩ := look_argEnv args 0 t s ht
        have hlt := (List.getElem?_eq_some_iff.1 hj).1
        refine ⟨?_, hargs s (List.mem_of_getElem? hj)⟩
        rw [Nat.zero_add, Array.getElem?_append_left (by simpa using hlt)]
        simp [hj]
      · simp; omega
    refine Go.wpIn_mono (h R ⟨w, fun _ => False⟩ _ w ⟨_, R, hrel⟩ 0) ?_
    have fin : ∀ a' w' st', resHolds P st' fn.results.toList (fun l => post (resOf st'.own l)) → Rel F R ⟨w, fun _ => False⟩ st' a' w' → a'.defers = [] ∧ ∃ v, (results fn a'.tmps).run P w' = .ok v w' ∧ (fun e w' => ∃ r, e = Ending.returned r.den ∧ post r ∧ r.ok (fun b => R b ∨ (w.heap.size ≤ b ∧ b < w'.heap.size)) w' ∧ Evo F.M w w' ∧ F.Inv w') (.returned v) w' := by
      rintro a' w' st' hres ⟨ob, R', hr'⟩
      obtain ⟨l, hpost, hlok, hrun⟩ := resHolds_ok hr' hres
      have hsub : ∀ b, withOwn st' R' b → R b ∨ (w.heap.size ≤ b ∧ b < w'.heap.size) := by
        rintro b (hb | ⟨i, o, ho, hb⟩)
        · rcases (hr'.rr b hb).2.2 with h | h | h
          · exact .inl h
          · exact .inr ⟨h, (hr'.rr b hb).1⟩
          · exact h.elim
        · obtain ⟨h1, h2, _⟩ := Own.blk_lt (hr'.own i o ho) hb
          rcases hr'.gb i o ho b hb with h | h
          · exact .inr ⟨h, h2⟩
          · exact h.elim
      have hro : ∀ s ∈ l, (ro st'.own s).den = s.den ∧ (ro st'.own s).ok (fun b => R b ∨ (w.heap.size ≤ b ∧ b < w'.heap.size)) w' := fun s hs =>
        ⟨(ro_ok hr' (hlok s hs)).1, SV.ok_mono hsub (fun _ _ => rfl) _ (ro_ok hr' (hlok s hs)).2⟩
      have hmA : ∀ (g : ResultVar → Sem Value), (fn.results.toList.mapM g).run P w' = .ok (l.map SV.den) w' → (fn.results.mapM g).run P w' = .ok (l.map SV.den).toArray w' := by
        intro g hg
        rw [Array.mapM_eq_mapM_toList]
        simp only [Sem.run_map, hg, Result.andThen_ok]
      refine ⟨hr'.defers, (resOf st'.own l).den, ?_, resOf st'.own l, rfl, hpost, ?_, ⟨hr'.evo.os, hr'.evo.tape, hr'.evo.output, hr'.evo.size, fun b hb hm => hr'.evo.block b hb (fun h => h.elim hm (fun h => h))⟩, hr'.inv⟩
      · unfold results
        rw [Sem.run_bind]
        show ((fn.results.mapM (resRun a'.tmps)).run P w').andThen _ = _
        rw [hmA _ hrun]
        simp only [Result.andThen_ok, Sem.run_pure, Result.ok.injEq, and_true]
        match l, hro with
        | [s], hro => simp [resOf, (hro s (by simp)).1]
        | [], hro => simp [resOf, SV.den]
        | s :: t :: rest, hro =>
          simp only [resOf, SV.den, List.map_cons, List.size_toArray, List.length_cons, List.length_map]
          rw [dif_neg (by omega)]
          congr 1
          apply Array.ext'
          apply List.ext_getElem?
          intro j
          simp only [List.getElem?_map]
          by_cases hj : j < rest.length + 1 + 1
          · rw [List.getElem?_range hj]
            have hj' : j < (s :: t :: rest).length := by simpa using hj
            have hmem : (s :: t :: rest).getD j default ∈ s :: t :: rest := getD_mem hj'
            have e1 : (s.den :: t.den :: rest.map SV.den)[j]? = some ((s :: t :: rest).getD j default).den := by
              have : (s.den :: t.den :: rest.map SV.den) = (s :: t :: rest).map SV.den := rfl
              rw [this, List.getElem?_map, getD_get hj' (d := default)]
              rfl
            rw [e1, Option.map_some, (hro _ hmem).1]
          · rw [List.getElem?_eq_none (by simp; omega), List.getElem?_eq_none (by simp; omega)]; rfl
      · match l, hro with
        | [s], hro => exact (hro s (by simp)).2
        | [], hro => intro j hj; simp at hj
        | s :: t :: rest, hro => intro j hj; exact (hro _ (getD_mem hj)).2
    rintro e a' w' ⟨st', ds', a1, ⟨he, D, i, rfl, hi, hres⟩, ⟨ob1, R1, hr1⟩, rfl⟩
    have hD : w'.heap[D]? = some (.deferred (some [])) := hr1.res_now hi
    have hr2 := hr1.setRes hi (p' := fun _ => True) (o := .deferred none) (fun w'' hw => trivial)
    obtain ⟨_, v, hv1, hv2⟩ := fin a1 _ _ hres ⟨ob1, R1, hr2⟩
    rcases he with rfl | rfl
    · exact ⟨by simp, .inl ⟨D, _, rfl, run_takeDeferred hD, v, hv1, hv2⟩⟩
    · exact ⟨by simp, .inl ⟨D, _, rfl, run_takeDeferred hD, v, hv1, hv2⟩⟩
/-! ### A region with a call of yield, in pieces -/
theorem wl_wo {ops : Array Oper} {Q : Exit → Act → World → Prop} {rd : Option Nat} {n : Nat} {dfs : List Deferred} {l2 : List Oper} : ∀ (l : List Oper) (st : St) (a : Act) (w : World), WO P F (ops.toList.map (·.dst)) l st k → Rel F R0 w0 st a w →
    (∀ st' a' w', k st' → Rel F R0 w0 st' a' w' → wpListIn (wideR rd) n P ops Q l2 { a' with defers := dfs } w') → wpListIn (wideR rd) n P ops Q (l ++ l2) { a with defers := dfs } w
  | [], st, a, w, h, hr, hk => hk _ _ _ h hr
  | o :: rest, st, a, w, h, hr, hk => by
    have run : ∀ {st : St}, Rel F R0 w0 st a w → dstOk st o.dst → (stepO P F st o.dst o.op fun st' => WO P F (ops.toList.map (·.dst)) rest st' k) → o.wpIn (wideR rd) n P { a with defers := dfs } w (wpListIn (wideR rd) n P ops Q (rest ++ l2)) Q := fun hr hd hs =>
      stepO_in hd hs hr fun st' a' w' h' hr' => wl_wo rest st' a' w' h' hr' hk
    unfold WO at h
    rw [List.cons_append]
    unfold wpListIn
    split at h
    · rename_i hg
      rw [if_pos (by simp [Region.wanted, hg])]
      exact (run hr h.1 h.2)
    · rename_i j want hg
      split at h
      · exact h.elim
      · rename_i t hj
        obtain ⟨ob, R, hrr⟩ := hr
        split at h
        · rename_i hl
          have hy := yielded_dst (tmps := a.tmps) hj (hrr.env t _ hl).1
          split at h
          · rename_i hw
            subst hw
            rw [if_pos (by simp [Region.wanted, hg, hy])]
            exact (run ⟨ob, R, hrr⟩ h.1 h.2)
          · rename_i hw
            have hwf : want = false := by simpa using hw
            subst hwf
            rw [if_neg (by simp [Region.wanted, hg, hy])]
            refine ⟨fun _ _ => trivial, ?_⟩
            rw [put_with]
            exact wl_wo rest _ (a.put o.dst undef) _ h.2 ⟨ob, R, hrr.put (s := .v undef) (dstOk_of h.1) trivial⟩ hk
        · rename_i hl
          have hy := yielded_dst (tmps := a.tmps) hj (hrr.env t _ hl).1
          split at h
          · rename_i hw
            subst hw
            rw [if_pos (by simp [Region.wanted, hg, hy])]
            exact (run ⟨ob, R, hrr⟩ h.1 h.2)
          · rename_i hw
            have hwf : want = true := by simpa using hw
            subst hwf
            rw [if_neg (by simp [Region.wanted, hg, hy])]
            refine ⟨fun _ _ => trivial, ?_⟩
            rw [put_with]
            exact wl_wo rest _ (a.put o.dst undef) _ h.2 ⟨ob, R, hrr.put (s := .v undef) (dstOk_of h.1) trivial⟩ hk
        · rename_i vs hl
          have hy : yielded ops a.tmps j = none := yielded_none hj (hrr.env t _ hl).1
          rw [if_neg (by simp [Region.wanted, hg, hy])]
          refine ⟨fun _ _ => trivial, ?_⟩
          rw [put_with]
          exact wl_wo rest _ (a.put o.dst undef) _ h.2 ⟨ob, R, hrr.put (s := .v undef) (dstOk_of h.1) trivial⟩ hk
        · rename_i x hl
          obtain ⟨_, ht, hf⟩ := h
          have hy := yielded_dst (tmps := a.tmps) hj (hrr.env t _ hl).1
          cases x with
          | true =>
            have h := ht rfl
            have hr' := hrr.know (s' := .tt) hl rfl (fun _ => trivial)
            split at h
            · rename_i hw
              subst hw
              rw [if_pos (by simp [Region.wanted, hg, hy])]
              exact (run ⟨ob, R, hr'⟩ h.1 h.2)
            · rename_i hw
              have hwf : want = false := by simpa using hw
              subst hwf
              rw [if_neg (by simp [Region.wanted, hg, hy])]
              refine ⟨fun _ _ => trivial, ?_⟩
              rw [put_with]
              exact wl_wo rest _ (a.put o.dst undef) _ h.2 ⟨ob, R, hr'.put (s := .v undef) (dstOk_of h.1) trivial⟩ hk
          | false =>
            have h := hf rfl
            have hr' := hrr.know (s' := .ff) hl rfl (fun _ => trivial)
            split at h
            · rename_i hw
              subst hw
              rw [if_pos (by simp [Region.wanted, hg, hy])]
              exact (run ⟨ob, R, hr'⟩ h.1 h.2)
            · rename_i hw
              have hwf : want = true := by simpa using hw
              subst hwf
              rw [if_neg (by simp [Region.wanted, hg, hy])]
              refine ⟨fun _ _ => trivial, ?_⟩
              rw [put_with]
              exact wl_wo rest _ (a.put o.dst undef) _ h.2 ⟨ob, R, hr'.put (s := .v undef) (dstOk_of h.1) trivial⟩ hk
        · exact h.elim
def WL (P : Program) (F : Frm) (rd : Option Nat) (dfs : List Deferred) (ops : Array Oper) (l : List Oper) (st : St) (k : St → Prop) : Prop :=
  ∀ (R0 : Nat → Prop) (w0 : Org) (a : Act) (w : World) (n : Nat) (Q : Exit → Act → World → Prop), Rel F R0 w0 st a w → (∀ st' a' w', k st' → Rel F R0 w0 st' a' w' → Q .normal { a' with defers := dfs } w') →
    wpListIn (wideR rd) n P ops Q l { a with defers := dfs } w
variable {dfs : List Deferred} {ops : Array Oper}
theorem WL.nil (h : k st) : WL P F rd dfs ops [] st k := fun R0 w0 a w n Q hr hk => hk _ _ _ h hr
theorem WL.wo (l1 l2 : List Oper) (h : WO P F (ops.toList.map (·.dst)) l1 st fun st' => WL P F rd dfs ops l2 st' k) : WL P F rd dfs ops (l1 ++ l2) st k :=
  fun R0 w0 a w n Q hr hk => wl_wo (k := fun st' => WL P F rd dfs ops l2 st' k) l1 st a w h hr fun st' a' w' h' hr' => h' R0 w0 a' w' n Q hr' hk
theorem WL.know {l : List Oper} {t : Tmp} {x : Bool} (hl : look st.env t = some (.b x)) (ht : x = true → WL P F rd dfs ops l (st.put (some t) .tt) k) (hf : x = false → WL P F rd dfs ops l (st.put (some t) .ff) k) : WL P F rd dfs ops l st k := by
  rintro R0 w0 a w n Q ⟨ob, R, hr⟩ hk
  cases x with
  | true => exact ht rfl R0 w0 a w n Q ⟨ob, R, hr.know hl rfl fun _ => trivial⟩ hk
  | false => exact hf rfl R0 w0 a w n Q ⟨ob, R, hr.know hl rfl fun _ => trivial⟩ hk
theorem WL.yield {o : Oper} {rest : List Oper} {j t : Nat} (hg : o.guard = some (j, true)) (hj : ((ops.toList.map (·.dst))[j]?).bind id = some t) (hl : look st.env t = some .tt) (hd : dstOk st o.dst)
    (h : stepY P F st o.dst o.op fun st' => WL P F rd dfs ops rest st' k) : WL P F rd dfs ops (o :: rest) st k := by
  rintro R0 w0 a w n Q ⟨ob, R, hr⟩ hk
  have hy := yielded_dst (tmps := a.tmps) hj (hr.env t _ hl).1
  unfold wpListIn
  rw [if_pos (by simp [Region.wanted, hg, hy])]
  exact stepY_in hd h ⟨ob, R, hr⟩ fun st' a' w' h' hr' => h' R0 w0 a' w' n Q hr' hk
theorem SatJ.region_wl {id : Nat} {l : List Oper} (h : ∀ k : St → Prop, (∀ st', K .normal ds st' → k st') → WL P F rd ds l.toArray l st k) : SatJ P F rd (.region id l.toArray false) ds st K := by
  intro R0 w0 a w hr n
  refine wpIn_region_lit ?_
  exact h _ (fun _ h => h) R0 w0 a w n _ hr fun st' a' w' hk hr' => ⟨st', ds, a', hk, hr', rfl⟩
theorem SatJ.region_k {id : Nat} {l : List Oper} (h : ∀ k : St → Prop, (∀ st', K .normal ds st' → k st') → WO P F (l.map (·.dst)) l st k) : SatJ P F rd (.region id l.toArray false) ds st K :=
  SatJ.region (h _ fun _ h => h)
theorem stepY_mk {op : Op} {l : Nat} {L : List SV} (ha : asYield st op = some (l, L)) (h : YieldK P F l L st dst k) : stepY P F st dst op k := by
  unfold stepY; rw [ha]; exact h
end
end Eng
end Go.Proofs.YtgimngpcfenoaaaDoor

/- The evaluator, part U: regions that draw their order, by masks: any tree of orders. -/
set_option linter.unusedSimpArgs false
set_option linter.unusedVariables false
namespace Go.Proofs.YtgimngpcfenoaaaDoor
namespace Eng
def inL (j : Nat) : List Nat → Bool
  | [] => false
  | i :: l => Nat.beq j i || inL j l
theorem inL_mem {j : Nat} : ∀ {l : List Nat}, inL j l = true → j ∈ l
  | i :: l, h => by
    simp only [inL, Bool.or_eq_true, Nat.beq_eq] at h
    rcases h with rfl | h
    · exact .head _
    · exact .tail _ (inL_mem h)
def chkBT (T : List Row) : BT → Bool → Nat → Nat → Bool
  | .done, _, m, mask => Nat.beq m 0 && allI (fun j r => !readyR mask j r) 0 T
  | .free k t, _, m + 1, mask => (match T[k]? with | some rk => readyR mask k rk && Nat.beq rk.kind 0 && freeR T mask k rk | none => false) && chkBT T t true m (mask ||| (1 <<< k))
  | .one k t, _, m + 1, mask => (match T[k]? with | some rk => readyR mask k rk | none => false) && allI (fun j r => Nat.beq j k || !readyR mask j r) 0 T && chkBT T t true m (mask ||| (1 <<< k))
  | .alt i t r, top, m + 1, mask => (!top || allI (fun j rr => !readyR mask j rr || inL j (i :: r.heads)) 0 T) && (match T[i]? with | some ri => readyR mask i ri | none => false) && chkBT T t true m (mask ||| (1 <<< i)) && chkBT T r false (m + 1) mask
  | .none, top, _, _ => !top
  | _, _, _, _ => false
section
variable {l : List Oper} {T : List Row} {mask : Nat}
theorem chkBT_ok (ht : tabOk .any l.toArray l.length l T = true) : ∀ (B : BT) (top : Bool) (m mask : Nat), chkBT T B top m mask = true → btGo .any l.toArray B top m (lst l.length mask) = true
  | .done, top, m, mask, h => by
    simp only [chkBT, Bool.and_eq_true, Nat.beq_eq] at h
    simp only [btGo, Bool.and_eq_true, beq_iff_eq]
    refine ⟨h.1, ?_⟩
    rw [ready_none ht h.2]; rfl
  | .free k t, top, 0, mask, h => by simp [chkBT] at h
  | .one k t, top, 0, mask, h => by simp [chkBT] at h
  | .alt i t r, top, 0, mask, h => by simp [chkBT] at h
  | .none, top, m, mask, h => by simpa [chkBT, btGo] using h
  | .free k t, top, m + 1, mask, h => by
    simp only [chkBT, Bool.and_eq_true] at h
    obtain ⟨h1, h3⟩ := h
    cases hk : T[k]? with
    | none => rw [hk] at h1; cases h1
    | some rk =>
      rw [hk] at h1
      obtain ⟨o, ho, rfl⟩ := op_at ht hk
      simp only [Bool.and_eq_true, Nat.beq_eq] at h1
      obtain ⟨⟨h1, h4⟩, h5⟩ := h1
      simp only [btGo, Bool.and_eq_true]
      refine ⟨⟨⟨by simpa using (ready_iff ht hk).2 h1, by rw [ho]; exact kind0 h4⟩, free_of ht ho h5⟩, ?_⟩
      rw [lst_set]
      exact chkBT_ok ht t _ _ _ h3
  | .one k t, top, m + 1, mask, h => by
    simp only [chkBT, Bool.and_eq_true] at h
    obtain ⟨⟨h1, h2⟩, h3⟩ := h
    cases hk : T[k]? with
    | none => rw [hk] at h1; cases h1
    | some rk =>
      rw [hk] at h1
      obtain ⟨o, ho, rfl⟩ := op_at ht hk
      simp only [btGo, Bool.and_eq_true, beq_iff_eq]
      refine ⟨⟨ready_one ht hk h1 h2, by rw [ho]; rfl⟩, ?_⟩
      rw [lst_set]
      exact chkBT_ok ht t _ _ _ h3
  | .alt i t r, top, m + 1, mask, h => by
    simp only [chkBT, Bool.and_eq_true] at h
    obtain ⟨⟨⟨h1, h2⟩, h3⟩, h4⟩ := h
    cases hi : T[i]? with
    | none => rw [hi] at h2; cases h2
    | some ri =>
      rw [hi] at h2
      have hmem := (ready_iff ht hi).2 h2
      obtain ⟨o, ho, _⟩ := op_at ht hi
      simp only [btGo, Bool.and_eq_true]
      refine ⟨⟨⟨⟨?_, ?_⟩, by rw [ho]; rfl⟩, by rw [lst_set]; exact chkBT_ok ht t _ _ _ h3⟩, chkBT_ok ht r _ _ _ h4⟩
      · cases top with
        | false => rfl
        | true =>
          simp only [Bool.not_true, Bool.false_or] at h1 ⊢
          rw [List.all_eq_true]
          intro j hj
          cases hTj : T[j]? with
          | none =>
            obtain ⟨hlen, _⟩ := tabOk_get l T ht
            have hlt : j < l.length := by
              obtain ⟨_, o, ho, _⟩ := mem_ready.1 hj
              simpa using (Array.getElem?_eq_some_iff.1 ho).1
            rw [List.getElem?_eq_none_iff] at hTj
            omega
          | some rj =>
            have g := allI_get T 0 h1 j rj hTj
            rw [Nat.zero_add, (ready_iff ht hTj).1 hj] at g
            simp only [Bool.not_true, Bool.false_or] at g
            simpa using inL_mem g
      · cases hr : Region.ready .any l.toArray (lst l.length mask) with
        | nil => rw [hr] at hmem; cases hmem
        | cons a b => rfl
end
def keepBT (l : List Oper) (T : List Row) (X : List Nat) (B : BT) (m : Nat) (ws : List Nat) : Bool := Region.noSelect l.toArray && tabOk .any l.toArray l.length l T && chkX T (maskL X ||| maskL ws) X 0 (fun mask => chkBT T B true m mask) && Nat.beq (X.length + m) l.length
section
variable {P : Program} {F : Frm} {l : List Oper} {T : List Row} {Q : Exit → Act → World → Prop} {k : St → Prop} {R0 : Nat → Prop} {w0 : Org}
theorem Sat.region_bt {K : Exit → St → Prop} {st : St} {id : Nat} {l : List Oper} (T : List Row) (X : List Nat) (B : BT) (m : Nat) (ws : List Nat) (hm : P.follows .mixedOrders = true) (hB : keepBT l T X B m ws = true) (hpan : ∀ c st, ¬ K (.panic c) st)
    (h : ∀ k : St → Prop, (∀ st', K .normal st' → k st') → WO P F (l.map (·.dst)) (X.map fun i => l.getD i default) st fun st2 => WBT P F (l.map (·.dst)) l st.own (keepW X ws) true B st2 k) : Sat P F (.region id l.toArray true) st K := by
  rintro R0 w0 a w ⟨ob, R, hr⟩
  simp only [keepBT, Bool.and_eq_true, Nat.beq_eq] at hB
  obtain ⟨⟨⟨hsel, ht⟩, hc⟩, hlen⟩ := hB
  have hdrew : Grown w { w with drawn := w.drawn + 1 } := ⟨rfl, rfl, rfl, Nat.le_refl _, fun _ _ _ => rfl⟩
  refine wp_region_any hm ?_
  have hpan' : ∀ c a w, ¬ (fun e a' w' => ∃ st', K e st' ∧ Rel F R0 w0 st' a' w') (.panic c) a w := fun c a w ⟨st', hk, _⟩ => hpan c st' hk
  have := keep_sound (P := P) (F := F) (R0 := R0) (w0 := w0) (Q := fun e a' w' => ∃ st', K e st' ∧ Rel F R0 w0 st' a' w') (k := K .normal) hpan' hsel X ws B m (lst l.length 0) st a { w with drawn := w.drawn + 1 }
    (chkX_ok ht (keepW X ws) _ (fun j hj => by rw [Nat.testBit_or, maskL_bit, maskL_bit] at hj; exact hj) B m _ (fun mask hb => chkBT_ok ht B true m mask hb) X 0 hc)
    (by simpa using h _ fun _ h => h) ⟨ob, R, hr.grown hdrew⟩ (fun st' a' w' hk hr' => ⟨st', hk, hr'⟩)
  rw [hlen, lst_zero] at this
  simpa using this
end
end Eng
end Go.Proofs.YtgimngpcfenoaaaDoor
