/- The evaluator, part P: functions that give back a new row of their own. -/
import Derived.Test.YtgdbcpljdibliaaGreatDoorPk2
import Derived.Below
import Derived.WalkKit
import Derived.Carry
import Derived.Deep.Draws
import Derived.Lib.ItoaNum
import Derived.Lib.Repeat
import Derived.Lib.Join
import Derived.Lib.SlTrimSet
import Derived.Laws.RangeString
import Derived.Lib.Bytealg
import Derived.Shelf.Strings.Prefix
set_option linter.unusedSimpArgs false
set_option linter.unusedVariables false
namespace Go.Proofs.YtgdbcpljdibliaaGreatDoor
namespace Eng
structure ContractN (F : Frm) (P : Program) (f : FuncId) (args : List SV) (post : Own → Prop) : Prop where
  enters : ∀ vs w, (callFunc f vs).run P w = .ok (.enter f vs) w
  calls : ∀ (R : Nat → Prop) (w : World), F.Inv w → (∀ s ∈ args, s.ok R w) → (∀ b, R b → b < w.heap.size ∧ ¬ F.M b) →
    Calls P f (args.map SV.den).toArray w fun e w' => ∃ (a : Option Addr) (ty len cap sz : Nat) (rd : Nat → Nat → SV) (R' : Nat → Prop), e = .returned (.slice a len cap) ∧ post (.row a ty len cap sz rd) ∧ (∀ b, R b → R' b) ∧
      (∀ b, R' b → R b ∨ (w.heap.size ≤ b ∧ b < w'.heap.size)) ∧ (Own.row a ty len cap sz rd).ok R' w.heap.size w' ∧ Evo F.M w w' ∧ F.Inv w'
theorem ContractN.mono {F : Frm} {P : Program} {f : FuncId} {args : List SV} {post post' : Own → Prop} (h : ContractN F P f args post) (hp : ∀ o, post o → post' o) : ContractN F P f args post' :=
  ⟨h.enters, fun R w h1 h2 h3 => (h.calls R w h1 h2 h3).mono fun e w' ⟨a, ty, len, cap, sz, rd, R', e1, e2, e3⟩ => ⟨a, ty, len, cap, sz, rd, R', e1, hp _ e2, e3⟩⟩
def newRow (own : List Own) (post : Own → Prop) : SV → Prop
  | .os id a len cap => (match own[id]? with
    | some (.row a1 ty len1 cap1 sz rd) => (a1 = a ∧ len1 = len ∧ cap1 = cap) ∧ post (.row a1 ty len1 cap1 sz rd)
    | _ => False)
  | _ => False
def retNK (st : St) (post : Own → Prop) : List SV → Prop
  | [s] => newRow st.own post s
  | _ => False
def retN (P : Program) (rs : List ResultVar) (post : Own → Prop) : Exit → St → Prop
  | .normal, st => resHolds P st rs (retNK st post)
  | .ret, st => resHolds P st rs (retNK st post)
  | _, _ => False
theorem contractN_of {P : Program} {F : Frm} {f : FuncId} {fn : Func} {c : Code} {args : List SV} {post : Own → Prop} (hf : P.funcs[f]? = some fn) (hb : fn.body = some c) (hname : (fn.name == "runtime.NumGoroutine") = false)
    (h : Sat P F c ⟨fn.ntmps, argEnv 0 args, []⟩ (retN P fn.results.toList post)) : ContractN F P f args post := by
  refine ⟨fun vs w => ?_, fun R w hinv hargs hR => ?_⟩
  · have hn : ¬ fn.name = "runtime.NumGoroutine" := by simpa using hname
    simp [callFunc, hf, hn, hb]
  · refine calls_of_wp hf hb ?_
    have hrel : RelR F R ⟨w, fun _ => False⟩ w.heap.size R ⟨fn.ntmps, argEnv 0 args, []⟩ { tmps := (args.map SV.den).toArray ++ Array.replicate (fn.ntmps - (args.map SV.den).toArray.size) undef, defers := [] } w := by
      refine ⟨rfl, ?_, ?_, fun i o ho => by simp at ho, fun i j o o' _ ho => by simp at ho, Evo.refl _ _, hinv, fun b hb => F.lt w b hinv hb, fun i o ho => by simp at ho, Nat.le_refl _, fun b hb => ⟨(hR b hb).1, (hR b hb).2, .inl hb⟩, fun _ h => h⟩
      · intro t s ht
        obtain ⟨j, rfl, hj⟩ := look_argEnv args 0 t s ht
        have hlt := (List.getElem?_eq_some_iff.1 hj).1
        refine ⟨?_, hargs s (List.mem_of_getElem? hj)⟩
        rw [Nat.zero_add, Array.getElem?_append_left (by simpa using hlt)]
        simp [hj]
      · simp; omega
    refine wp_mono (h R ⟨w, fun _ => False⟩ _ w ⟨_, R, hrel⟩) ?_
    have fin : ∀ a' w' st', resHolds P st' fn.results.toList (retNK st' post) → Rel F R ⟨w, fun _ => False⟩ st' a' w' → a'.defers = [] ∧ ∃ v, (results fn a'.tmps).run P w' = .ok v w' ∧
        (fun e w' => ∃ (a : Option Addr) (ty len cap sz : Nat) (rd : Nat → Nat → SV) (R' : Nat → Prop), e = Ending.returned (.slice a len cap) ∧ post (.row a ty len cap sz rd) ∧ (∀ b, R b → R' b) ∧ (∀ b, R' b → R b ∨ (w.heap.size ≤ b ∧ b < w'.heap.size)) ∧ (Own.row a ty len cap sz rd).ok R' w.heap.size w' ∧ Evo F.M w w' ∧ F.Inv w') (.returned v) w' := by
      rintro a' w' st' hres ⟨ob', R', hr'⟩
      obtain ⟨l, hpost, hlok, hrun⟩ := resHolds_ok hr' hres
      have hmA : ∀ (g : ResultVar → Sem Value), (fn.results.toList.mapM g).run P w' = .ok (l.map SV.den) w' → (fn.results.mapM g).run P w' = .ok (l.map SV.den).toArray w' := by
        intro g hg
        rw [Array.mapM_eq_mapM_toList]
        simp only [Sem.run_map, hg, Result.andThen_ok]
      obtain ⟨s, rfl, hp2⟩ : ∃ s, l = [s] ∧ newRow st'.own post s := by
        match l, hpost with
        | [s], h => exact ⟨s, rfl, h⟩
      obtain ⟨id, a, len, cap, rfl⟩ : ∃ id a len cap, s = .os id a len cap := by
        cases s <;> first | exact hp2.elim | exact ⟨_, _, _, _, rfl⟩
      clear hpost
      unfold newRow at hp2
      cases ho : st'.own[id]? with
      | none => simp only [ho] at hp2
      | some o =>
        simp only [ho] at hp2
        cases o with
        | row a1 ty len1 cap1 sz rd =>
          obtain ⟨⟨rfl, rfl, rfl⟩, hpost⟩ := hp2
          refine ⟨hr'.defers, .slice a1 len1 cap1, ?_, a1, ty, len1, cap1, sz, rd, R', rfl, hpost, hr'.r0, fun b hb => ?_, Own.rebase (hr'.own id _ ho) (fun b hb => ?_), ⟨hr'.evo.os, hr'.evo.tape, hr'.evo.output, hr'.evo.size, fun b hb hm => hr'.evo.block b hb (fun h => h.elim hm (fun h => h))⟩, hr'.inv⟩
          · unfold results
            rw [Sem.run_bind]
            show ((fn.results.mapM (resRun a'.tmps)).run P w').andThen _ = _
            rw [hmA _ hrun]
            simp [SV.den]
          · rcases (hr'.rr b hb).2.2 with h | h | h
            · exact .inl h
            · exact .inr ⟨h, (hr'.rr b hb).1⟩
            · exact h.elim
          · rcases hr'.gb id _ ho b hb with h | h
            · exact h
            · exact h.elim
        | _ => exact hp2.elim
    rintro e a' w' ⟨st', hk, hr'⟩
    cases e with
    | normal => exact fin a' w' st' hk hr'
    | ret => exact fin a' w' st' hk hr'
    | _ => exact hk.elim
section
variable {P : Program} {F : Frm} {st : St} {k : St → Prop} {dst : Option Tmp} {ds : List (Option Tmp)} {rest : List Oper}
variable {R0 R : Nat → Prop} {w0 : Org} {w : World} {ob : Nat} {a : Act}
theorem RelR.calledN (h : RelR F R0 w0 ob R st a w) {w' : World} {R' : Nat → Prop} {o1 : Own} (he : Evo F.M w w') (hi : F.Inv w') (hRR : ∀ b, R b → R' b) (hR' : ∀ b, R' b → R b ∨ (w.heap.size ≤ b ∧ b < w'.heap.size)) (ho1 : o1.ok R' w.heap.size w') :
    RelR F R0 w0 ob R' { st with own := st.own ++ [o1] } a w' := by
  have hRb : ∀ b, R b → w'.heap[b]? = w.heap[b]? := fun b hr => he.block b (h.rr b hr).1 (h.rr b hr).2.1
  have hown : ∀ (i : Nat) (o : Own), st.own[i]? = some o → ∀ b, o.blk = some b → w'.heap[b]? = w.heap[b]? := fun i o ho b hb => by
    obtain ⟨h1, h2, _⟩ := Own.blk_lt (h.own i o ho) hb
    exact he.block b h2 (fun hm => by have := h.ltM hm; omega)
  have hobw := h.obw
  have hsz := h.evo.size
  refine ⟨h.defers, fun t s ht => ⟨(h.env t s ht).1, SV.ok_mono hRR hRb s (h.env t s ht).2⟩, h.size, ?_, ?_, h.evo.trans ⟨he.os, he.tape, he.output, he.size, fun b hb hm => he.block b hb (fun h => hm (.inl h))⟩, hi, h.obM, ?_, Nat.le_trans h.obw he.size, ?_, fun b hb => hRR b (h.r0 b hb)⟩
  · intro i o ho
    rcases get_append_one ho with ho | ⟨_, rfl⟩
    · refine Own.ok_keep (h.own i o ho) hRR (fun b hb hr => ?_) hRb (hown i o ho)
      rcases hR' b hr with hr | ⟨hr, _⟩
      · exact hr
      · have := (Own.blk_lt (h.own i o ho) hb).2.1
        omega
    · exact Own.rebase ho1 (fun b hb => by have := (Own.blk_lt ho1 hb).1; omega)
  · intro i j o o' hij ho ho' b hb hb'
    rcases get_append_one ho with p1 | ⟨hi', rfl⟩ <;> rcases get_append_one ho' with p2 | ⟨hj', rfl⟩
    · exact h.dist i j o o' hij p1 p2 b hb hb'
    · have g1 := (Own.blk_lt (h.own i o p1) hb).2.1
      have g2 := (Own.blk_lt ho1 hb').1
      omega
    · have g1 := (Own.blk_lt (h.own j o' p2) hb').2.1
      have g2 := (Own.blk_lt ho1 hb).1
      omega
    · omega
  · intro i o ho b hb
    rcases get_append_one ho with ho | ⟨_, rfl⟩
    · exact h.gb i o ho b hb
    · have := (Own.blk_lt ho1 hb).1
      exact .inl (by omega)
  · intro b hb
    rcases hR' b hb with hb | ⟨hb1, hb2⟩
    · obtain ⟨g1, g2, g3⟩ := h.rr b hb
      exact ⟨Nat.lt_of_lt_of_le g1 he.size, g2, g3⟩
    · exact ⟨hb2, fun hm => by have := h.ltM hm; omega, .inr (.inl (by omega))⟩
theorem roArgS_all {st' : St} {R1 : Nat → Prop} (args : List SV) (hst : st'.own = frz st.own args) (hr1 : RelR F R0 w0 ob R1 { st with own := frz st.own args } a w) (hargs1 : ∀ s ∈ args, s.ok R1 w) : ∀ s ∈ args.map (roArgS (frz st.own args)), s.ok R1 w := by
  intro s' hs'
  obtain ⟨s, hs, rfl⟩ := List.mem_map.1 hs'
  have key : (roSl (Eng.frz st.own args) s).ok R1 w → (roArgS (Eng.frz st.own args) s).ok R1 w := fun h => by cases s <;> first | trivial | exact h
  apply key
  unfold roSl
  cases hany : asAny (Eng.frz st.own args) s with
  | none => exact hargs1 s hs
  | some p =>
    obtain ⟨a', len, cap, sz, rd⟩ := p
    have rd_ok : ∀ {s : SV}, asRead (Eng.frz st.own args) s = some (a', len, cap, sz, rd) → s.ok R1 w → (SV.sl a' len cap sz rd).ok R1 w := fun h1 h2 => (asRead_ok (st := { st with own := Eng.frz st.own args }) h1 hr1.own h2).2
    unfold asAny at hany
    split at hany
    · rename_i id a1 len1 cap1
      split at hany
      · rename_i a2 e2 len2 cap2 sz2 rd2 ho2
        exact absurd rfl ((frz_row args ho2).2 _ hs a1 len1 cap1)
      · exact rd_ok hany (hargs1 _ hs)
    · exact rd_ok hany (hargs1 _ hs)
theorem callK_new {f : FuncId} {args : List SV} {post : Own → Prop} (h : ContractN F P f (args.map (roArgS (frz st.own args))) post)
    (hk : ∀ (a : Option Addr) (ty len cap sz : Nat) (rd : Nat → Nat → SV), post (.row a ty len cap sz rd) → k (St.put { st with own := frz st.own args ++ [.row a ty len cap sz rd] } dst (.os (frz st.own args).length a len cap))) : CallK P F f args st dst k := by
  intro R0 w0 ob R a w hr hargs
  refine ⟨h.enters, ?_⟩
  obtain ⟨R1, hm1, hr1⟩ := hr.frz args
  have hargs1 : ∀ s ∈ args, s.ok R1 w := fun s hs => SV.ok_mono hm1 (fun _ _ => rfl) s (hargs s hs)
  have hden : (args.map (roArgS (Eng.frz st.own args))).map SV.den = args.map SV.den := by
    rw [List.map_map]
    exact List.map_congr_left fun s hs => (roArgS_ok hr1 (hargs1 s hs)).1
  have hok := roArgS_all (st' := { st with own := frz st.own args }) args rfl hr1 hargs1
  have hc := h.calls R1 w hr1.inv hok (fun b hb => ⟨(hr1.rr b hb).1, (hr1.rr b hb).2.1⟩)
  rw [hden] at hc
  refine hc.mono ?_
  rintro e w' ⟨ad, ty, len, cap, sz, rd, R', rfl, hpost, hRR, hR', ho1, hevo, hinv⟩
  exact ⟨.os (frz st.own args).length ad len cap, _, R', rfl, hk ad ty len cap sz rd hpost, trivial, hr1.calledN hevo hinv hRR hR' ho1, rfl⟩
theorem wcall_new {f : FuncId} {args args' : List SV} {post : Own → Prop} {st : St} {own' : List Own} (h : ContractN F P f args' post) (ho : frz st.own args = own') (ha : args.map (roArgS own') = args')
    (hk : ∀ (a : Option Addr) (ty len cap sz : Nat) (rd : Nat → Nat → SV), post (.row a ty len cap sz rd) → WO P F ds rest (St.put { st with own := own' ++ [.row a ty len cap sz rd] } dst (.os own'.length a len cap)) k) : WCall P F ds rest dst st f (some args) k := by
  subst ho
  unfold WCall
  exact callK_new (k := fun st' => WO P F ds rest st' k) (by rw [ha]; exact h) hk
end
end Eng
end Go.Proofs.YtgdbcpljdibliaaGreatDoor

/- Plain laws of numbers that are kept as limbs to the base 2^30, the least significant one first. No program is in sight. -/
namespace Go.Proofs.YtgdbcpljdibliaaGreatDoor.Lmb
def val : List Int → Int
  | [] => 0
  | x :: r => x + 1073741824 * val r
def Limbs (xs : List Int) : Prop := ∀ x ∈ xs, 0 ≤ x ∧ x < 1073741824
def Norm (xs : List Int) : Prop := ∀ x, xs.getLast? = some x → x ≠ 0
structure Dig (xs : List Int) (n : Nat) : Prop where
  limbs : Limbs xs
  norm : Norm xs
  val : val xs = n
theorem limbs_nil : Limbs [] := by intro x hx; cases hx
theorem limbs_cons {x : Int} {r : List Int} : Limbs (x :: r) ↔ (0 ≤ x ∧ x < 1073741824) ∧ Limbs r := by
  simp [Limbs]
theorem limbs_append {a b : List Int} : Limbs (a ++ b) ↔ Limbs a ∧ Limbs b := by
  simp only [Limbs, List.mem_append]
  constructor
  · intro h; exact ⟨fun x hx => h x (Or.inl hx), fun x hx => h x (Or.inr hx)⟩
  · rintro ⟨h, k⟩ x (hx | hx)
    · exact h x hx
    · exact k x hx
theorem limbs_getD {xs : List Int} (h : Limbs xs) (i : Nat) : 0 ≤ xs.getD i 0 ∧ xs.getD i 0 < 1073741824 := by
  by_cases hi : i < xs.length
  · have : xs.getD i 0 = xs[i] := by simp [List.getD, hi]
    rw [this]; exact h _ (List.getElem_mem hi)
  · have : xs.getD i 0 = 0 := by simp [List.getD, Nat.le_of_not_lt hi]
    rw [this]; omega
theorem limbs_take {xs : List Int} (h : Limbs xs) (k : Nat) : Limbs (xs.take k) := fun x hx => h x (List.mem_of_mem_take hx)
theorem limbs_drop {xs : List Int} (h : Limbs xs) (k : Nat) : Limbs (xs.drop k) := fun x hx => h x (List.mem_of_mem_drop hx)
theorem limbs_set {xs : List Int} (h : Limbs xs) (k : Nat) (v : Int) (hv : 0 ≤ v ∧ v < 1073741824) : Limbs (xs.set k v) := by
  intro x hx
  rcases List.mem_or_eq_of_mem_set hx with hx | rfl
  · exact h x hx
  · exact hv
theorem limbs_replicate (n : Nat) : Limbs (List.replicate n 0) := by
  intro x hx; rw [List.mem_replicate] at hx; omega
def pw (k : Nat) : Int := 1073741824 ^ k
theorem pw_zero : pw 0 = 1 := rfl
theorem pw_succ (k : Nat) : pw (k + 1) = 1073741824 * pw k := by unfold pw; rw [Int.pow_succ, Int.mul_comm]
theorem pw_pos (k : Nat) : 0 < pw k := by
  induction k with
  | zero => decide
  | succ k ih => rw [pw_succ]; omega
theorem pw_add (a b : Nat) : pw (a + b) = pw a * pw b := by unfold pw; rw [Int.pow_add]
theorem pw_mono {a b : Nat} (h : a ≤ b) : pw a ≤ pw b := by
  obtain ⟨c, rfl⟩ := Nat.exists_eq_add_of_le h
  rw [pw_add]
  have h1 := pw_pos a
  have h2 := pw_pos c
  have := Int.mul_le_mul_of_nonneg_left (show (1 : Int) ≤ pw c by omega) (Int.le_of_lt h1)
  omega
attribute [irreducible] pw
theorem val_nil : val [] = 0 := rfl
theorem val_cons (x : Int) (r : List Int) : val (x :: r) = x + 1073741824 * val r := rfl
theorem val_append (a b : List Int) : val (a ++ b) = val a + pw a.length * val b := by
  induction a with
  | nil => simp [val_nil, pw_zero]
  | cons x r ih =>
    rw [List.cons_append, val_cons, val_cons, ih, List.length_cons, pw_succ, Int.mul_add, Int.mul_assoc, Int.add_assoc]
theorem val_nonneg {xs : List Int} (h : Limbs xs) : 0 ≤ val xs := by
  induction xs with
  | nil => simp [val_nil]
  | cons x r ih =>
    rw [limbs_cons] at h
    have := ih h.2
    rw [val_cons]; omega
theorem val_lt {xs : List Int} (h : Limbs xs) : val xs < pw xs.length := by
  induction xs with
  | nil => simp [val_nil, pw_zero]
  | cons x r ih =>
    rw [limbs_cons] at h
    have := ih h.2
    rw [val_cons, List.length_cons, pw_succ]; omega
theorem val_replicate (n : Nat) : val (List.replicate n 0) = 0 := by
  induction n with
  | zero => rfl
  | succ n ih => rw [List.replicate_succ, val_cons, ih]; rfl
theorem norm_nil : Norm [] := by intro x h; simp at h
theorem norm_cons {x y : Int} {r : List Int} : Norm (x :: y :: r) ↔ Norm (y :: r) := by
  simp [Norm, List.getLast?_cons_cons]
theorem norm_one {x : Int} : Norm [x] ↔ x ≠ 0 := by
  simp [Norm]
theorem val_pos {xs : List Int} (h : Limbs xs) (hn : Norm xs) (hne : xs ≠ []) : pw (xs.length - 1) ≤ val xs := by
  induction xs with
  | nil => exact absurd rfl hne
  | cons x r ih =>
    rw [limbs_cons] at h
    cases r with
    | nil =>
      rw [norm_one] at hn
      simp [val_cons, val_nil, pw_zero]; omega
    | cons y s =>
      have := ih h.2 (norm_cons.1 hn) (by simp)
      rw [val_cons]
      simp only [List.length_cons, Nat.add_sub_cancel] at this ⊢
      rw [pw_succ]; omega
theorem val_eq_zero {xs : List Int} (h : Limbs xs) (hn : Norm xs) : val xs = 0 ↔ xs = [] := by
  constructor
  · intro hv
    by_cases hne : xs = []
    · exact hne
    · have h1 := val_pos h hn hne
      have h2 := pw_pos (xs.length - 1)
      omega
  · rintro rfl; rfl
theorem val_inj {xs : List Int} : ∀ {ys : List Int}, Limbs xs → Limbs ys → Norm xs → Norm ys → val xs = val ys → xs = ys := by
  induction xs with
  | nil =>
    intro ys _ hy _ ny hv
    exact ((val_eq_zero hy ny).1 hv.symm).symm
  | cons x r ih =>
    intro ys hx hy nx ny hv
    cases ys with
    | nil => exact (val_eq_zero hx nx).1 hv
    | cons y s =>
      rw [limbs_cons] at hx hy
      rw [val_cons, val_cons] at hv
      have hr := val_nonneg hx.2
      have hs := val_nonneg hy.2
      have e1 : x = y := by omega
      have e2 : val r = val s := by omega
      have nr : Norm r := by cases r with
        | nil => exact norm_nil
        | cons => exact norm_cons.1 nx
      have ns : Norm s := by cases s with
        | nil => exact norm_nil
        | cons => exact norm_cons.1 ny
      rw [e1, ih hx.2 hy.2 nr ns e2]
theorem Dig.inj {xs ys : List Int} {n m : Nat} (h : Dig xs n) (k : Dig ys m) : xs = ys ↔ n = m := by
  constructor
  · rintro rfl
    have := h.val.symm.trans k.val
    omega
  · rintro rfl
    exact val_inj h.limbs k.limbs h.norm k.norm (h.val.trans k.val.symm)
theorem Dig.len_zero {xs : List Int} {n : Nat} (h : Dig xs n) : xs.length = 0 ↔ n = 0 := by
  rw [List.length_eq_zero_iff, ← val_eq_zero h.limbs h.norm, h.val]; omega
theorem Dig.nil : Dig [] 0 := ⟨limbs_nil, norm_nil, rfl⟩
theorem Dig.lt {xs : List Int} {n : Nat} (h : Dig xs n) : (n : Int) < pw xs.length := by
  have := val_lt h.limbs; rw [h.val] at this; exact this
theorem Dig.len_le {xs : List Int} {n : Nat} (h : Dig xs n) (k : Nat) : xs.length ≤ k ↔ (n : Int) < pw k := by
  constructor
  · intro hk
    exact Int.lt_of_lt_of_le h.lt (pw_mono hk)
  · intro hk
    rcases Nat.lt_or_ge k xs.length with hlt | hge
    · have hne : xs ≠ [] := by rintro rfl; simp at hlt
      have h1 := val_pos h.limbs h.norm hne
      have h2 := pw_mono (show k ≤ xs.length - 1 by omega)
      rw [h.val] at h1
      omega
    · exact hge
def trim : List Int → List Int
  | [] => []
  | x :: r => match trim r with
    | [] => if x = 0 then [] else [x]
    | y :: s => x :: y :: s
theorem trim_norm (xs : List Int) : Norm (trim xs) := by
  induction xs with
  | nil => exact norm_nil
  | cons x r ih =>
    unfold trim
    split
    · split
      · exact norm_nil
      · rw [norm_one]; assumption
    · rename_i y s h
      rw [norm_cons, ← h]; exact ih
theorem trim_val (xs : List Int) : val (trim xs) = val xs := by
  induction xs with
  | nil => rfl
  | cons x r ih =>
    unfold trim
    split
    · rename_i h
      rw [h, val_nil] at ih
      split
      · rename_i h0; rw [val_cons, ← ih, h0]; rfl
      · rw [val_cons, val_cons, ← ih]; rfl
    · rename_i y s h
      rw [val_cons, val_cons x r, ← ih, h]
theorem trim_limbs {xs : List Int} (hl : Limbs xs) : Limbs (trim xs) := by
  induction xs with
  | nil => exact limbs_nil
  | cons x r ih =>
    rw [limbs_cons] at hl
    have := ih hl.2
    unfold trim
    split
    · split
      · exact limbs_nil
      · rw [limbs_cons]; exact ⟨hl.1, limbs_nil⟩
    · rename_i y s h
      rw [limbs_cons, ← h]; exact ⟨hl.1, this⟩
theorem trim_prefix (xs : List Int) : ∃ z, xs = trim xs ++ z := by
  induction xs with
  | nil => exact ⟨[], rfl⟩
  | cons x r ih =>
    obtain ⟨z, hz⟩ := ih
    unfold trim
    split
    · rename_i h
      split
      · exact ⟨x :: r, rfl⟩
      · exact ⟨r, rfl⟩
    · rename_i y s h
      exact ⟨z, by rw [List.cons_append, ← h, ← hz]⟩
theorem trim_len (xs : List Int) : (trim xs).length ≤ xs.length := by
  obtain ⟨z, hz⟩ := trim_prefix xs
  have := congrArg List.length hz
  rw [List.length_append] at this; omega
theorem trim_take (xs : List Int) : xs.take (trim xs).length = trim xs := by
  obtain ⟨z, hz⟩ := trim_prefix xs
  have h : (trim xs ++ z).take (trim xs).length = trim xs := by simp
  rwa [← hz] at h
theorem trim_snoc_zero (xs : List Int) : trim (xs ++ [0]) = trim xs := by
  induction xs with
  | nil => rfl
  | cons x r ih => simp only [List.cons_append, trim, ih]
theorem trim_snoc {x : Int} (xs : List Int) (h : x ≠ 0) : trim (xs ++ [x]) = xs ++ [x] := by
  induction xs with
  | nil => simp [trim, h]
  | cons y r ih =>
    simp only [List.cons_append, trim, ih]
    cases r <;> rfl
theorem trim_of_norm {xs : List Int} (h : Norm xs) : trim xs = xs := by
  rcases List.eq_nil_or_concat xs with rfl | ⟨r, x, rfl⟩
  · rfl
  · rw [List.concat_eq_append] at h ⊢
    exact trim_snoc r (h x (by simp))
theorem dig_trim {xs : List Int} (h : Limbs xs) : Dig (trim xs) (val xs).toNat :=
  ⟨trim_limbs h, trim_norm xs, by rw [trim_val]; have := val_nonneg h; omega⟩
theorem val_take_succ (xs : List Int) (k : Nat) (h : k < xs.length) : val (xs.take (k + 1)) = val (xs.take k) + pw k * xs.getD k 0 := by
  rw [List.take_succ_eq_append_getElem h, val_append, List.length_take, Nat.min_eq_left (Nat.le_of_lt h)]
  simp [val_cons, val_nil, List.getD, h]
theorem val_take_all (xs : List Int) (k : Nat) (h : xs.length ≤ k) : val (xs.take k) = val xs := by rw [List.take_of_length_le h]
theorem val_split (xs : List Int) (k : Nat) (hk : k ≤ xs.length) : val xs = val (xs.take k) + pw k * val (xs.drop k) := by
  conv => lhs; rw [← List.take_append_drop k xs]
  rw [val_append, List.length_take, Nat.min_eq_left hk]
theorem dig_exists (n : Nat) : ∃ xs, Dig xs n := by
  induction n using Nat.strongRecOn with
  | _ n ih =>
    by_cases h : n = 0
    · subst h; exact ⟨[], Dig.nil⟩
    · obtain ⟨r, hr⟩ := ih (n / 1073741824) (by omega)
      have hl : Limbs (((n % 1073741824 : Nat) : Int) :: r) := by rw [limbs_cons]; exact ⟨by omega, hr.limbs⟩
      refine ⟨trim (((n % 1073741824 : Nat) : Int) :: r), ?_⟩
      have := dig_trim hl
      rw [val_cons, hr.val] at this
      have e : (((n % 1073741824 : Nat) : Int) + 1073741824 * ((n / 1073741824 : Nat) : Int)).toNat = n := by omega
      rwa [e] at this
theorem Dig.mono_len {xs ys : List Int} {n m : Nat} (h : Dig xs n) (k : Dig ys m) (hle : n ≤ m) : xs.length ≤ ys.length := by
  rw [h.len_le]
  have := k.lt
  omega
theorem Dig.lt_of_len {xs ys : List Int} {n m : Nat} (h : Dig xs n) (k : Dig ys m) (hlt : xs.length < ys.length) : n < m := by
  rcases Nat.lt_or_ge n m with h' | h'
  · exact h'
  · have := k.mono_len h h'
    omega
theorem val_set (xs : List Int) (k : Nat) (h : k < xs.length) (v : Int) : val (xs.set k v) = val xs + pw k * (v - xs.getD k 0) := by
  induction xs generalizing k with
  | nil => simp at h
  | cons x r ih =>
    cases k with
    | zero => simp [val_cons, pw_zero]; omega
    | succ k =>
      simp only [List.set_cons_succ, val_cons, List.getD_cons_succ]
      rw [ih k (by simpa using h), pw_succ, Int.mul_add, Int.mul_assoc]; omega
def binom : Nat → Nat → Nat
  | _, 0 => 1
  | 0, _ + 1 => 0
  | n + 1, k + 1 => binom n k + binom n (k + 1)
def fact : Nat → Nat
  | 0 => 1
  | n + 1 => (n + 1) * fact n
theorem fact_pos (n : Nat) : 0 < fact n := by
  induction n with
  | zero => decide
  | succ n ih => unfold fact; exact Nat.mul_pos (by omega) ih
theorem binom_zero (n : Nat) : binom n 0 = 1 := by cases n <;> rfl
theorem binom_succ (n k : Nat) : binom (n + 1) (k + 1) = binom n k + binom n (k + 1) := rfl
theorem binom_gt (n : Nat) : ∀ k, n < k → binom n k = 0 := by
  induction n with
  | zero => intro k hk; cases k with
    | zero => omega
    | succ k => rfl
  | succ n ih => intro k hk; cases k with
    | zero => omega
    | succ k => rw [binom_succ, ih k (by omega), ih (k + 1) (by omega)]
theorem binom_self (n : Nat) : binom n n = 1 := by
  induction n with
  | zero => rfl
  | succ n ih => rw [binom_succ, ih, binom_gt n (n + 1) (by omega)]
theorem binom_fact (n : Nat) : ∀ k, k ≤ n → binom n k * (fact k * fact (n - k)) = fact n := by
  induction n with
  | zero => intro k hk; cases k with
    | zero => rfl
    | succ k => omega
  | succ n ih =>
    intro k hk
    cases k with
    | zero => rw [binom_zero]; simp [fact]
    | succ k =>
      by_cases e : k = n
      · subst e; rw [binom_self]; simp [fact]
      · have h1 := ih k (by omega)
        have h2 := ih (k + 1) (by omega)
        have e3 : fact (n - k) = (n - k) * fact (n - (k + 1)) := by
          obtain ⟨d, hd⟩ : ∃ d, n - k = d + 1 := ⟨n - k - 1, by omega⟩
          have hd' : n - (k + 1) = d := by omega
          rw [hd, hd']; rfl
        rw [binom_succ, Nat.add_mul]
        have a1 : binom n k * (fact (k + 1) * fact (n + 1 - (k + 1))) = (k + 1) * fact n := by
          have : n + 1 - (k + 1) = n - k := by omega
          rw [this, ← h1, show fact (k + 1) = (k + 1) * fact k from rfl]
          simp only [Nat.mul_assoc, Nat.mul_left_comm]
        have a2 : binom n (k + 1) * (fact (k + 1) * fact (n + 1 - (k + 1))) = (n - k) * fact n := by
          have : n + 1 - (k + 1) = n - k := by omega
          rw [this, e3, ← h2]
          simp only [Nat.mul_left_comm]
        rw [a1, a2, ← Nat.add_mul]
        have : k + 1 + (n - k) = n + 1 := by omega
        rw [this]; rfl
theorem binom_symm {n k : Nat} (h : k ≤ n) : binom n (n - k) = binom n k := by
  have h1 := binom_fact n k h
  have h2 := binom_fact n (n - k) (by omega)
  have e : n - (n - k) = k := by omega
  rw [e, Nat.mul_comm (fact (n - k))] at h2
  exact Nat.eq_of_mul_eq_mul_right (Nat.mul_pos (fact_pos k) (fact_pos (n - k))) (h2.trans h1.symm)
theorem binom_step (n : Nat) : ∀ k, binom n (k + 1) * (k + 1) = binom n k * (n - k) := by
  induction n with
  | zero => intro k; cases k <;> simp [binom]
  | succ n ih =>
    intro k
    cases k with
    | zero =>
      have := ih 0
      simp only [binom_zero, Nat.zero_add, Nat.mul_one, Nat.one_mul, Nat.sub_zero] at this ⊢
      rw [show (1 : Nat) = 0 + 1 from rfl, binom_succ, binom_zero, this]; omega
    | succ k =>
      rcases Nat.lt_or_ge n k with hlt | hge
      · rw [binom_gt (n + 1) (k + 1 + 1) (by omega), binom_gt (n + 1) (k + 1) (by omega)]; simp
      · have h1 := ih k
        have h2 := ih (k + 1)
        rw [binom_succ n (k + 1), binom_succ n k]
        have e : n + 1 - (k + 1) = n - k := by omega
        rw [e, Nat.add_mul, h2, Nat.add_mul, ← h1]
        rcases Nat.eq_or_lt_of_le hge with rfl | hlt
        · simp [binom_gt k (k + 1) (by omega)]
        · have e2 : n - k = (n - (k + 1)) + 1 := by omega
          rw [e2, Nat.mul_add (binom n (k + 1)) k 1, Nat.mul_add (binom n (k + 1)) k 1 |>.symm, Nat.mul_add (binom n (k + 1)) (n - (k + 1)) 1, Nat.mul_add (binom n (k + 1)) (k + 1) 1]
          omega
theorem binom_le (n : Nat) : ∀ k, binom n k ≤ 2 ^ n := by
  induction n with
  | zero => intro k; cases k <;> simp [binom]
  | succ n ih => intro k; cases k with
    | zero => rw [binom_zero]; exact Nat.one_le_two_pow
    | succ k =>
      have h1 := ih k
      have h2 := ih (k + 1)
      rw [binom_succ, Nat.pow_succ]; omega
end Go.Proofs.YtgdbcpljdibliaaGreatDoor.Lmb

/- How a slice of integers reads in memory: 'Rd', and a row of integers of the call's own: 'Own'. -/
set_option linter.unusedSectionVars false
set_option linter.unusedSimpArgs false
set_option linter.unusedVariables false
namespace Go.Proofs.YtgdbcpljdibliaaGreatDoor.Zn
open Go.RowKit
class Zone where
  G : Nat → Prop
  N : Nat
  up : ∀ b, N ≤ b → G b
variable [Zone]
def ZOk (w : World) (ad : Option Addr) (n : Nat) : Prop := Zone.N ≤ w.heap.size ∧ (n = 0 ∨ ∀ x, ad = some x → Zone.G x.block)
def Rd (k : IntKind) (w : World) (v : Value) (xs : List Int) : Prop :=
  ∃ ad cap, v = .slice ad xs.length cap ∧ xs.length ≤ cap ∧ (cap ≤ maxLen ∧ ZOk w ad xs.length) ∧
    (xs.length = 0 ∨ ∃ b off, ad = some ⟨b, off, none⟩ ∧ b < w.heap.size ∧ ∀ i, i < xs.length → w.cell? ⟨b, off + i, none⟩ = some (.int k (xs.getD i 0)))
theorem Rd.zone {k : IntKind} {w : World} {v : Value} {xs : List Int} (h : Rd k w v xs) : Zone.N ≤ w.heap.size := by
  obtain ⟨_, _, _, _, h, _⟩ := h
  exact h.2.1
theorem Rd.nil (k : IntKind) (w : World) (hN : Zone.N ≤ w.heap.size) : Rd k w (.slice none 0 0) [] := ⟨none, 0, rfl, by simp, ⟨by simp [maxLen], hN, .inl rfl⟩, .inl rfl⟩
theorem Rd.below {k : IntKind} {w w' : World} {v : Value} {xs : List Int} (h : Rd k w v xs) (hb : Below w.heap.size w w') : Rd k w' v xs := by
  obtain ⟨ad, cap, rfl, h1, h2, h3⟩ := h
  refine ⟨ad, cap, rfl, h1, ⟨h2.1, Nat.le_trans h2.2.1 hb.size, h2.2.2⟩, ?_⟩
  rcases h3 with h3 | ⟨b, off, rfl, hlt, hc⟩
  · exact .inl h3
  · exact .inr ⟨b, off, rfl, Nat.lt_of_lt_of_le hlt hb.size, fun i hi => (hb.cell (p := ⟨b, off + i, none⟩) hlt).trans (hc i hi)⟩
theorem Rd.take {k : IntKind} {w : World} {ad : Option Addr} {cap : Nat} {xs : List Int} (h : Rd k w (.slice ad xs.length cap) xs) (n : Nat) (hn : n ≤ xs.length) : Rd k w (.slice ad n cap) (xs.take n) := by
  obtain ⟨ad', cap', e, h1, h2, h3⟩ := h
  simp only [Value.slice.injEq] at e
  obtain ⟨rfl, _, rfl⟩ := e
  have hl : (xs.take n).length = n := by simp; omega
  refine ⟨ad, cap, by rw [hl], by omega, ⟨h2.1, h2.2.1, ?_⟩, ?_⟩
  · rcases h2.2.2 with h | h
    · exact .inl (by omega)
    · exact .inr h
  rw [hl]
  rcases h3 with h3 | ⟨b, off, rfl, hlt, hc⟩
  · exact .inl (by omega)
  · refine .inr ⟨b, off, rfl, hlt, fun i hi => ?_⟩
    rw [hc i (by omega)]
    simp [List.getD, hi]
theorem rd_of_ints {k : IntKind} {w : World} {x : Addr} {l c : Nat} {zs : List Int} (hl : l ≤ c) (hm : c ≤ maxLen) (hz : zs.length = c) (hN : Zone.N ≤ w.heap.size) (hG : Zone.G x.block) (hcell : ∀ i, i < zs.length → w.cell? (x.add i) = some (.int k (zs.getD i 0))) : Rd k w (.slice (some x) l c) (zs.take l) := by
  have hlen : (zs.take l).length = l := by simp; omega
  refine ⟨some x, c, by rw [hlen], by omega, ⟨hm, hN, .inr fun y hy => by cases hy; exact hG⟩, ?_⟩
  by_cases h0 : l = 0
  · exact .inl (by omega)
  · obtain ⟨b, off, spot⟩ := x
    have hc := hcell 0 (by omega)
    have hspot : spot = none := by simpa [Addr.add] using World.cell?_spot hc
    subst hspot
    refine .inr ⟨b, off, rfl, World.block_lt_of_cell? w _ hc, fun i hi => ?_⟩
    rw [hlen] at hi
    have := hcell i (by omega)
    rw [Addr.add_lit] at this
    rw [this]
    simp [List.getD, hi]
def Own (k : IntKind) (e : TypeId) (B : Nat) (w : World) (g n : Nat) (xs : List Int) : Prop :=
  w.ownsRow B e 1 (.slice (some ⟨g, 0, none⟩) n n) n (xs.map (Value.int k)) ∧ Zone.N ≤ B
section
variable {k : IntKind} {e : TypeId} {B : Nat} {w : World} {g n : Nat} {xs : List Int}
theorem Own.len (h : Own k e B w g n xs) : xs.length = n := by have := h.1.1; simpa using this
theorem Own.lt (h : Own k e B w g n xs) : B ≤ g ∧ g < w.heap.size := World.ownsRow.lt h.1 g rfl
theorem Own.cell (h : Own k e B w g n xs) (i : Nat) (hi : i < n) : w.cell? ⟨g, i, none⟩ = some (.int k (xs.getD i 0)) := by
  have hl := h.len
  rw [World.ownsRow.cellAt h.1 i (by omega)]
  simp [List.getD, show i < xs.length by omega]
theorem Own.frozen (h : Own k e B w g n xs) (i : Nat) : w.frozen? ⟨g, i, none⟩ = false := World.ownsRow.frozenAt h.1 i
theorem Own.store (h : Own k e B w g n xs) (i : Nat) (v : Int) : Own k e B (w.setCell ⟨g, i, none⟩ (.int k v)) g n (xs.set i v) := by
  have := (World.ownsRow.stored h.1 i (.int k v)).1
  unfold Own
  exact ⟨by rwa [List.map_set], h.2⟩
theorem Own.below {w' : World} (h : Own k e B w g n xs) (hb : Below w.heap.size w w') : Own k e B w' g n xs :=
  ⟨World.ownsRow.kept h.1 ⟨hb.os, hb.tape, hb.output, hb.size, fun i hi _ => hb.block i hi⟩ (row := none) (.inr (by simp [Value.ownBlock])), h.2⟩
theorem Own.cap (h : Own k e B w g n xs) : n ≤ maxLen := by
  rcases h.1.2 with ⟨h, _⟩ | ⟨_, cap, _, h, _, _, hn, hc, _⟩
  · cases h
  · simp only [Value.slice.injEq] at h; omega
theorem Own.rd (h : Own k e B w g n xs) : Rd k w (.slice (some ⟨g, 0, none⟩) n n) xs := by
  have hl := h.len
  refine ⟨some ⟨g, 0, none⟩, n, by rw [hl], by omega, ⟨h.cap, by have := h.lt; have := h.2; omega, .inr fun y hy => by cases hy; exact Zone.up _ (Nat.le_trans h.2 h.lt.1)⟩, ?_⟩
  by_cases h0 : n = 0
  · exact .inl (by omega)
  · exact .inr ⟨g, 0, rfl, h.lt.2, fun i hi => by rw [Nat.zero_add]; exact h.cell i (by omega)⟩
end
omit [Zone] in
theorem bcell {W w1 : World} (hb : Below W.heap.size W w1) : (∀ b o, b < W.heap.size → w1.cell? ⟨b, o, none⟩ = W.cell? ⟨b, o, none⟩) ∧ (∀ b o, b < W.heap.size → w1.frozen? ⟨b, o, none⟩ = W.frozen? ⟨b, o, none⟩) :=
  ⟨fun b o h => hb.cell (p := ⟨b, o, none⟩) h, fun b o h => hb.frozen (p := ⟨b, o, none⟩) h⟩
omit [Zone] in
theorem Below.drewN' (w : World) (n : Nat) : Below w.heap.size w (w.drewN n) := ⟨rfl, rfl, rfl, Nat.le_refl _, fun _ _ => rfl⟩
omit [Zone] in
theorem ret_int {k : IntKind} {a b : Int} (h : a = b) : Ending.returned (.int k a) = .returned (.int k b) := by rw [h]
/-! bits at int -/
omit [Zone] in
theorem ofInt_i64 (a : Nat) (ha : a < 9223372036854775808) : (BitVec.ofInt 64 (a : Int)).toNat = a := by
  rw [BitVec.ofInt_natCast, BitVec.toNat_ofNat]; exact Nat.mod_eq_of_lt (by omega)
omit [Zone] in
theorem and_limb (n : Int) : bits .and .i64 n 1073741823 = n % 1073741824 := by
  show IntKind.i64.wrap ((BitVec.ofInt 64 n &&& BitVec.ofInt 64 1073741823).toNat : Int) = _
  have e : (BitVec.ofInt 64 n &&& BitVec.ofInt 64 1073741823).toNat = (n % 18446744073709551616).toNat % 1073741824 := by
    rw [BitVec.toNat_and, BitVec.toNat_ofInt]
    exact Nat.and_two_pow_sub_one_eq_mod _ 30
  rw [e, IntKind.wrap_i64]
  omega
omit [Zone] in
theorem or_limb (a b : Int) (ha : 0 ≤ a) (ha' : a < 8589934592) (hb : 0 ≤ b) (hb' : b < 1073741824) : bits .or .i64 (a * 1073741824) b = a * 1073741824 + b := by
  obtain ⟨x, rfl⟩ := Int.eq_ofNat_of_zero_le ha
  obtain ⟨y, rfl⟩ := Int.eq_ofNat_of_zero_le hb
  show IntKind.i64.wrap ((BitVec.ofInt 64 ((x : Int) * 1073741824) ||| BitVec.ofInt 64 (y : Int)).toNat : Int) = _
  have e1 : ((x : Int) * 1073741824) = ((x * 1073741824 : Nat) : Int) := by simp
  rw [e1, BitVec.toNat_or, ofInt_i64 _ (by omega), ofInt_i64 _ (by omega)]
  have e2 : x * 1073741824 ||| y = x * 1073741824 + y := nat_join 30 _ _ (by omega) (by omega)
  rw [e2, IntKind.wrap_i64]
  omega
end Go.Proofs.YtgdbcpljdibliaaGreatDoor.Zn

/- The product limb by limb: plain laws of one round of the inner and the outer loop. -/
namespace Go.Proofs.YtgdbcpljdibliaaGreatDoor.Lmb
theorem getD_set {xs : List Int} (i j : Nat) (v : Int) (h : i < xs.length) : (xs.set i v).getD j 0 = if i = j then v else xs.getD j 0 := by
  simp only [List.getD, List.getElem?_set]
  split
  · rfl
  · rfl
structure MulOut (xs ys os : List Int) (j : Nat) : Prop where
  len : os.length = xs.length + ys.length
  limbs : Limbs os
  val : val os = val (xs.take j) * val ys
  zero : ∀ t, j + ys.length ≤ t → os.getD t 0 = 0
structure MulIn (xs ys os qs : List Int) (j k : Nat) (c : Int) : Prop where
  len : qs.length = xs.length + ys.length
  limbs : Limbs qs
  c0 : 0 ≤ c
  c1 : c < 1073741824
  val : val qs + pw (j + k) * c = val os + pw j * (xs.getD j 0 * val (ys.take k))
  zero : ∀ t, j + ys.length ≤ t → qs.getD t 0 = 0
theorem MulOut.start (xs ys : List Int) : MulOut xs ys (List.replicate (xs.length + ys.length) 0) 0 :=
  ⟨by simp, limbs_replicate _, by simp [val_replicate, val_nil], fun t _ => by
    simp only [List.getD, List.getElem?_replicate]; split <;> rfl⟩
theorem MulIn.start {xs ys os : List Int} {j : Nat} (h : MulOut xs ys os j) : MulIn xs ys os os j 0 0 :=
  ⟨h.len, h.limbs, by omega, by omega, by simp [val_nil], h.zero⟩
theorem limb_prod {x y : Int} (hx : 0 ≤ x ∧ x < 1073741824) (hy : 0 ≤ y ∧ y < 1073741824) : 0 ≤ x * y ∧ x * y ≤ 1152921502459363329 := by
  refine ⟨Int.mul_nonneg hx.1 hy.1, ?_⟩
  have h1 : x * y ≤ 1073741823 * y := Int.mul_le_mul_of_nonneg_right (by omega) hy.1
  omega
theorem MulIn.step {xs ys os qs : List Int} {j k : Nat} {c : Int} (h : MulIn xs ys os qs j k c) (hx : Limbs xs) (hy : Limbs ys) (hj : j < xs.length) (hk : k < ys.length) :
    MulIn xs ys os (qs.set (j + k) ((qs.getD (j + k) 0 + xs.getD j 0 * ys.getD k 0 + c) % 1073741824)) j (k + 1) ((qs.getD (j + k) 0 + xs.getD j 0 * ys.getD k 0 + c) / 1073741824) := by
  have bx := limbs_getD hx j
  have bY := limbs_getD hy k
  have bo := limbs_getD h.limbs (j + k)
  have hp := limb_prod bx bY
  have hl := h.len
  have hv := h.val
  have h0 := h.c0
  have h1 := h.c1
  have ht := val_take_succ ys k hk
  have hs := val_set qs (j + k) (by omega) ((qs.getD (j + k) 0 + xs.getD j 0 * ys.getD k 0 + c) % 1073741824)
  generalize hX : xs.getD j 0 = x at *
  generalize hY : ys.getD k 0 = y at *
  generalize hO : qs.getD (j + k) 0 = o at *
  generalize hXY : x * y = p at *
  refine ⟨by simpa using hl, limbs_set h.limbs _ _ (by omega), by omega, by omega, ?_, fun t hlt => ?_⟩
  · have e1 : pw (j + (k + 1)) = 1073741824 * pw (j + k) := by rw [← Nat.add_assoc, pw_succ]
    rw [hX, hs, ht, e1, Int.mul_add x, Int.mul_add (pw j), ← Int.add_assoc, ← hv]
    have e2 : pw j * (x * (pw k * y)) = pw (j + k) * p := by rw [pw_add, ← hXY]; simp only [Int.mul_assoc, Int.mul_left_comm]
    rw [e2]
    have e3 : 1073741824 * ((o + p + c) / 1073741824) + (o + p + c) % 1073741824 = o + p + c := Int.mul_ediv_add_emod _ _
    have e4 : pw (j + k) * (1073741824 * ((o + p + c) / 1073741824) + (o + p + c) % 1073741824) = pw (j + k) * (o + p + c) := by rw [e3]
    rw [Int.mul_add] at e4
    rw [Int.mul_sub, Int.mul_assoc, Int.mul_left_comm]
    rw [Int.mul_add, Int.mul_add] at e4
    rw [Int.mul_left_comm (pw (j + k)) 1073741824] at e4
    rw [Int.mul_left_comm (pw (j + k)) 1073741824]
    omega
  · rw [getD_set _ _ _ (by omega), if_neg (by omega)]
    exact h.zero t hlt
theorem MulIn.done {xs ys os qs : List Int} {j : Nat} {c : Int} (h : MulIn xs ys os qs j ys.length c) (ho : MulOut xs ys os j) (hj : j < xs.length) :
    MulOut xs ys (qs.set (j + ys.length) c) (j + 1) := by
  have hl := h.len
  have hs := val_set qs (j + ys.length) (by omega) c
  have hv := h.val
  have hov := ho.val
  have ht := val_take_succ xs j hj
  rw [h.zero (j + ys.length) (Nat.le_refl _), Int.sub_zero] at hs
  rw [List.take_of_length_le (Nat.le_refl _)] at hv
  refine ⟨by simpa using hl, limbs_set h.limbs _ _ ⟨h.c0, h.c1⟩, ?_, fun t hlt => ?_⟩
  · rw [hs, hv, hov, ht, Int.add_mul, Int.mul_assoc]
  · rw [getD_set _ _ _ (by omega), if_neg (by omega)]
    exact h.zero t (by omega)
theorem MulOut.done {xs ys os : List Int} {m n : Nat} (h : MulOut xs ys os xs.length) (hx : Lmb.val xs = m) (hy : Lmb.val ys = n) : Dig (trim os) (m * n) := by
  have hv := h.val
  rw [List.take_of_length_le (Nat.le_refl _), hx, hy] at hv
  have := dig_trim h.limbs
  rw [hv] at this
  have e : ((m : Int) * (n : Int)).toNat = m * n := by rw [← Int.natCast_mul]; rfl
  rwa [e] at this
end Go.Proofs.YtgdbcpljdibliaaGreatDoor.Lmb

/- Division by one limb, and addition, limb by limb: plain laws of one round; bounds by powers of two. -/
namespace Go.Proofs.YtgdbcpljdibliaaGreatDoor.Lmb
structure SmallInv (xs : List Int) (b : Int) (j : Nat) (qs : List Int) (rest : Int) : Prop where
  len : qs.length = xs.length
  limbs : Limbs qs
  r0 : 0 ≤ rest
  r1 : rest < b
  val : val (xs.drop j) = val (qs.drop j) * b + rest
theorem SmallInv.start (xs : List Int) (b : Int) (hb : 1 ≤ b) : SmallInv xs b xs.length (List.replicate xs.length 0) 0 :=
  ⟨by simp, limbs_replicate _, by omega, by omega, by simp [val_nil]⟩
theorem val_drop (xs : List Int) (j : Nat) (h : j < xs.length) : val (xs.drop j) = xs.getD j 0 + 1073741824 * val (xs.drop (j + 1)) := by
  rw [List.drop_eq_getElem_cons h, val_cons]; simp [List.getD, h]
theorem SmallInv.step {xs qs : List Int} {b rest : Int} {j : Nat} (h : SmallInv xs b (j + 1) qs rest) (hx : Limbs xs) (hj : j < xs.length) :
    SmallInv xs b j (qs.set j ((rest * 1073741824 + xs.getD j 0) / b)) ((rest * 1073741824 + xs.getD j 0) % b) := by
  have bx := limbs_getD hx j
  have hl := h.len
  have h0 := h.r0
  have h1 := h.r1
  have hv := h.val
  have e1 := val_drop xs j hj
  have e2 := val_drop (qs.set j ((rest * 1073741824 + xs.getD j 0) / b)) j (by simp; omega)
  have e3 : (qs.set j ((rest * 1073741824 + xs.getD j 0) / b)).drop (j + 1) = qs.drop (j + 1) := by
    rw [List.drop_set_of_lt (by omega)]
  rw [e3, getD_set _ _ _ (by omega), if_pos rfl] at e2
  generalize xs.getD j 0 = x at *
  have hv0 : 0 ≤ rest * 1073741824 + x := by omega
  have hq : (rest * 1073741824 + x) / b < 1073741824 := Int.ediv_lt_of_lt_mul (by omega) (by omega)
  have hq0 : 0 ≤ (rest * 1073741824 + x) / b := Int.ediv_nonneg hv0 (by omega)
  have hm0 := Int.emod_nonneg (rest * 1073741824 + x) (show b ≠ 0 by omega)
  have hm1 := Int.emod_lt_of_pos (rest * 1073741824 + x) (show 0 < b by omega)
  have he := Int.mul_ediv_add_emod (rest * 1073741824 + x) b
  refine ⟨by simpa using hl, limbs_set h.limbs _ _ ⟨hq0, hq⟩, hm0, hm1, ?_⟩
  rw [e1, e2, hv]
  generalize (rest * 1073741824 + x) / b = q at *
  generalize (rest * 1073741824 + x) % b = r at *
  generalize Lmb.val (qs.drop (j + 1)) = d at *
  rw [Int.add_mul, Int.mul_add, ← Int.mul_assoc]
  rw [Int.mul_comm b q] at he
  generalize 1073741824 * d * b = t at *
  omega
theorem SmallInv.done {xs qs : List Int} {b rest : Int} {n c : Nat} (h : SmallInv xs b 0 qs rest) (hx : Lmb.val xs = n) (hb : b = c) : Dig (trim qs) (n / c) ∧ rest = ((n % c : Nat) : Int) := by
  have hv := h.val
  have h0 := h.r0
  have h1 := h.r1
  have hq := val_nonneg h.limbs
  have hd := dig_trim h.limbs
  rw [List.drop_zero, List.drop_zero, hx, hb] at hv
  rw [hb] at h1
  obtain ⟨q, hq'⟩ := Int.eq_ofNat_of_zero_le hq
  obtain ⟨r, rfl⟩ := Int.eq_ofNat_of_zero_le h0
  rw [hq'] at hv hd
  have hv' : n = q * c + r := by
    have : ((n : Nat) : Int) = ((q * c + r : Nat) : Int) := by rw [hv]; simp
    omega
  have hr : r < c := by omega
  have e1 : n / c = q := by
    rw [hv', Nat.add_comm, Nat.add_mul_div_right _ _ (by omega), Nat.div_eq_of_lt hr]; omega
  have e2 : n % c = r := by rw [hv', Nat.add_comm, Nat.add_mul_mod_self_right, Nat.mod_eq_of_lt hr]
  rw [e1, e2]
  exact ⟨by simpa using hd, rfl⟩
structure AddInv (xs ys os : List Int) (n i : Nat) (c : Int) : Prop where
  len : os.length = n + 1
  limbs : Limbs os
  c0 : 0 ≤ c
  c1 : c ≤ 1
  val : val os + pw i * c = val (xs.take i) + val (ys.take i)
  zero : ∀ t, i ≤ t → os.getD t 0 = 0
theorem AddInv.start (xs ys : List Int) (n : Nat) : AddInv xs ys (List.replicate (n + 1) 0) n 0 0 :=
  ⟨by simp, limbs_replicate _, by omega, by omega, by simp [val_replicate, val_nil], fun t _ => by
    simp only [List.getD, List.getElem?_replicate]; split <;> rfl⟩
theorem val_take_next (xs : List Int) (k : Nat) : val (xs.take (k + 1)) = val (xs.take k) + pw k * xs.getD k 0 := by
  by_cases h : k < xs.length
  · exact val_take_succ xs k h
  · have e : xs.getD k 0 = 0 := by simp [List.getD, Nat.le_of_not_lt h]
    rw [e, List.take_of_length_le (by omega), List.take_of_length_le (by omega)]; omega
theorem AddInv.step {xs ys os : List Int} {n i : Nat} {c : Int} (h : AddInv xs ys os n i c) (hx : Limbs xs) (hy : Limbs ys) (hi : i < n) :
    AddInv xs ys (os.set i ((xs.getD i 0 + ys.getD i 0 + c) % 1073741824)) n (i + 1) ((xs.getD i 0 + ys.getD i 0 + c) / 1073741824) := by
  have bx := limbs_getD hx i
  have bY := limbs_getD hy i
  have hl := h.len
  have h0 := h.c0
  have h1 := h.c1
  have hv := h.val
  have hs := val_set os i (by omega) ((xs.getD i 0 + ys.getD i 0 + c) % 1073741824)
  rw [h.zero i (Nat.le_refl _), Int.sub_zero] at hs
  have tx := val_take_next xs i
  have ty := val_take_next ys i
  generalize xs.getD i 0 = x at *
  generalize ys.getD i 0 = y at *
  refine ⟨by simpa using hl, limbs_set h.limbs _ _ (by omega), by omega, by omega, ?_, fun t hlt => ?_⟩
  · rw [hs, tx, ty, pw_succ]
    have e3 : 1073741824 * ((x + y + c) / 1073741824) + (x + y + c) % 1073741824 = x + y + c := Int.mul_ediv_add_emod _ _
    have e4 : pw i * (1073741824 * ((x + y + c) / 1073741824) + (x + y + c) % 1073741824) = pw i * (x + y + c) := by rw [e3]
    rw [Int.mul_add, Int.mul_add, Int.mul_add, Int.mul_left_comm] at e4
    rw [Int.mul_assoc]
    omega
  · rw [getD_set _ _ _ (by omega), if_neg (by omega)]
    exact h.zero t (by omega)
theorem AddInv.done {xs ys os : List Int} {n : Nat} {c : Int} {a b : Nat} (h : AddInv xs ys os n n c) (hx : Lmb.val xs = a) (hy : Lmb.val ys = b) (hn : xs.length ≤ n) (hn' : ys.length ≤ n) :
    Dig (trim (os.set n c)) (a + b) := by
  have h0 := h.c0
  have h1 := h.c1
  have hs := val_set os n (by have := h.len; omega) c
  have hl : Limbs (os.set n c) := limbs_set h.limbs _ _ (by omega)
  have hv := h.val
  rw [h.zero n (Nat.le_refl _), Int.sub_zero] at hs
  rw [List.take_of_length_le hn, List.take_of_length_le hn', hx, hy] at hv
  have hd := dig_trim hl
  rw [hs, hv] at hd
  have e : ((a : Int) + (b : Int)).toNat = a + b := by omega
  rwa [e] at hd
/-! bounds by powers of two -/
theorem pw_two (k : Nat) : pw k = ((2 ^ (30 * k) : Nat) : Int) := by
  unfold pw
  rw [Nat.pow_mul]
  have : (2 : Nat) ^ 30 = 1073741824 := by decide
  rw [this]; simp
theorem lt_pw {m a k : Nat} (h : m ≤ 2 ^ a) (hk : a < 30 * k) : (m : Int) < pw k := by
  rw [pw_two]
  have h1 : (2 : Nat) ^ a < 2 ^ (30 * k) := Nat.pow_lt_pow_right (by decide) hk
  omega
theorem mul_two {m n a b : Nat} (h : m ≤ 2 ^ a) (k : n ≤ 2 ^ b) : m * n ≤ 2 ^ (a + b) := by
  rw [Nat.pow_add]; exact Nat.mul_le_mul h k
theorem dig_one {x : Nat} (h0 : 0 < x) (h1 : x < 1073741824) : Dig [(x : Int)] x :=
  ⟨by rw [limbs_cons]; exact ⟨by omega, limbs_nil⟩, by rw [norm_one]; omega, by simp [val_cons, val_nil]⟩
end Go.Proofs.YtgdbcpljdibliaaGreatDoor.Lmb

/- Comparison and subtraction, limb by limb: plain laws. -/
namespace Go.Proofs.YtgdbcpljdibliaaGreatDoor.Lmb
def cmpI (x y : Int) : Int := if x < y then -1 else if y < x then 1 else 0
theorem cmpI_lt {x y : Int} (h : x < y) : cmpI x y = -1 := by unfold cmpI; rw [if_pos h]
theorem cmpI_gt {x y : Int} (h : y < x) : cmpI x y = 1 := by unfold cmpI; rw [if_neg (by omega), if_pos h]
theorem cmpI_eq {x y : Int} (h : x = y) : cmpI x y = 0 := by unfold cmpI; rw [if_neg (by omega), if_neg (by omega)]
theorem val_cmp_limb {xs ys : List Int} {m : Nat} (hx : Limbs xs) (hy : Limbs ys) (hmx : m < xs.length) (hmy : m < ys.length) (hd : xs.drop (m + 1) = ys.drop (m + 1)) (h : xs.getD m 0 < ys.getD m 0) : val xs < val ys := by
  rw [val_split xs m (by omega), val_split ys m (by omega), val_drop xs m hmx, val_drop ys m hmy, hd]
  have h1 := val_lt (limbs_take hx m)
  have h2 := val_nonneg (limbs_take hy m)
  rw [List.length_take, Nat.min_eq_left (by omega)] at h1
  have hp := pw_pos m
  generalize val (ys.drop (m + 1)) = t at *
  generalize xs.getD m 0 = x at *
  generalize ys.getD m 0 = y at *
  generalize val (xs.take m) = u at *
  generalize val (ys.take m) = v at *
  generalize pw m = p at *
  have h3 : p * (x + 1) ≤ p * y := Int.mul_le_mul_of_nonneg_left (by omega) (by omega)
  rw [Int.mul_add, Int.mul_add]
  rw [Int.mul_add] at h3
  omega
theorem cmp_limb {xs ys : List Int} {m : Nat} (hx : Limbs xs) (hy : Limbs ys) (hmx : m < xs.length) (hmy : m < ys.length) (hd : xs.drop (m + 1) = ys.drop (m + 1)) (h : xs.getD m 0 ≠ ys.getD m 0) : cmpI (xs.getD m 0) (ys.getD m 0) = cmpI (val xs) (val ys) := by
  rcases Int.lt_or_gt_of_ne h with h | h
  · rw [cmpI_lt h, cmpI_lt (val_cmp_limb hx hy hmx hmy hd h)]
  · rw [cmpI_gt h, cmpI_gt (val_cmp_limb hy hx hmy hmx hd.symm h)]
theorem drop_eq_step {xs ys : List Int} {m : Nat} (hmx : m < xs.length) (hmy : m < ys.length) (hd : xs.drop (m + 1) = ys.drop (m + 1)) (h : xs.getD m 0 = ys.getD m 0) : xs.drop m = ys.drop m := by
  rw [List.drop_eq_getElem_cons hmx, List.drop_eq_getElem_cons hmy, hd]
  simp only [List.getD, List.getElem?_eq_getElem hmx, List.getElem?_eq_getElem hmy, Option.getD_some] at h
  rw [h]
theorem cmp_len {xs ys : List Int} {m n : Nat} (h : Dig xs m) (k : Dig ys n) (hne : xs.length ≠ ys.length) : cmpI xs.length ys.length = cmpI m n := by
  rcases Nat.lt_or_gt_of_ne hne with hl | hl
  · have := h.lt_of_len k hl
    rw [cmpI_lt (by omega), cmpI_lt (by omega)]
  · have := k.lt_of_len h hl
    rw [cmpI_gt (by omega), cmpI_gt (by omega)]
structure SubInv (xs ys os : List Int) (i : Nat) (c : Int) : Prop where
  len : os.length = xs.length
  limbs : Limbs os
  c0 : -1 ≤ c
  c1 : c ≤ 0
  val : val os + pw i * c = val (xs.take i) - val (ys.take i)
  zero : ∀ t, i ≤ t → os.getD t 0 = 0
theorem SubInv.start (xs ys : List Int) : SubInv xs ys (List.replicate xs.length 0) 0 0 :=
  ⟨by simp, limbs_replicate _, by omega, by omega, by simp [val_replicate, val_nil], fun t _ => by
    simp only [List.getD, List.getElem?_replicate]; split <;> rfl⟩
theorem SubInv.step {xs ys os : List Int} {i : Nat} {c : Int} (h : SubInv xs ys os i c) (hx : Limbs xs) (hy : Limbs ys) (hi : i < xs.length) :
    SubInv xs ys (os.set i ((xs.getD i 0 - ys.getD i 0 + c) % 1073741824)) (i + 1) ((xs.getD i 0 - ys.getD i 0 + c) / 1073741824) := by
  have bx := limbs_getD hx i
  have bY := limbs_getD hy i
  have hl := h.len
  have h0 := h.c0
  have h1 := h.c1
  have hv := h.val
  have hs := val_set os i (by omega) ((xs.getD i 0 - ys.getD i 0 + c) % 1073741824)
  rw [h.zero i (Nat.le_refl _), Int.sub_zero] at hs
  have tx := val_take_next xs i
  have ty := val_take_next ys i
  generalize xs.getD i 0 = x at *
  generalize ys.getD i 0 = y at *
  refine ⟨by simpa using hl, limbs_set h.limbs _ _ (by omega), by omega, by omega, ?_, fun t hlt => ?_⟩
  · rw [hs, tx, ty, pw_succ]
    have e3 : 1073741824 * ((x - y + c) / 1073741824) + (x - y + c) % 1073741824 = x - y + c := Int.mul_ediv_add_emod _ _
    have e4 : pw i * (1073741824 * ((x - y + c) / 1073741824) + (x - y + c) % 1073741824) = pw i * (x - y + c) := by rw [e3]
    rw [Int.mul_add, Int.mul_add, Int.mul_sub, Int.mul_left_comm] at e4
    rw [Int.mul_assoc]
    omega
  · rw [getD_set _ _ _ (by omega), if_neg (by omega)]
    exact h.zero t (by omega)
theorem SubInv.done {xs ys os : List Int} {c : Int} {a b : Nat} (h : SubInv xs ys os xs.length c) (hx : Lmb.val xs = a) (hy : Lmb.val ys = b) (hb : b ≤ a) (hl : ys.length ≤ xs.length) : Dig (trim os) (a - b) := by
  have h0 := h.c0
  have h1 := h.c1
  have hv := h.val
  have ho := val_lt h.limbs
  have hp := pw_pos xs.length
  rw [h.len] at ho
  rw [List.take_of_length_le (Nat.le_refl _), List.take_of_length_le hl, hx, hy] at hv
  have hc : c = 0 := by
    rcases (show c = 0 ∨ c = -1 by omega) with hc | hc
    · exact hc
    · rw [hc] at hv
      have := val_nonneg h.limbs
      omega
  rw [hc] at hv
  have hd := dig_trim h.limbs
  have e : (Lmb.val os).toNat = a - b := by omega
  rwa [e] at hd
end Go.Proofs.YtgdbcpljdibliaaGreatDoor.Lmb

/- Long division, limb by limb: plain laws. -/
namespace Go.Proofs.YtgdbcpljdibliaaGreatDoor.Lmb
/-! ### the guess of one limb of the quotient -/
structure GuessOk (high next third lead second g : Int) : Prop where
  g0 : 0 ≤ g
  g1 : g < 1073741824
  le : g * (lead * 1073741824 + second) ≤ (high * 1073741824 + next) * 1073741824 + third
  most : ∀ t, 0 ≤ t → t < 1073741824 → t * (lead * 1073741824 + second) ≤ (high * 1073741824 + next) * 1073741824 + third → t ≤ g
structure GuessInv (high next third lead second q r : Int) : Prop where
  q0 : 0 ≤ q
  r0 : 0 ≤ r
  sum : q * lead + r = high * 1073741824 + next
  most : ∀ t, 0 ≤ t → t < 1073741824 → t * (lead * 1073741824 + second) ≤ (high * 1073741824 + next) * 1073741824 + third → t ≤ q
theorem expand (q lead second : Int) : q * (lead * 1073741824 + second) = (q * lead) * 1073741824 + q * second := by
  rw [Int.mul_add, Int.mul_assoc]
theorem GuessInv.start {high next third lead second : Int} (hh : 0 ≤ high) (hn : 0 ≤ next) (ht : third < 1073741824) (hl : 1 ≤ lead) (hs : 0 ≤ second) :
    GuessInv high next third lead second ((high * 1073741824 + next) / lead) ((high * 1073741824 + next) % lead) := by
  have hv : 0 ≤ high * 1073741824 + next := by omega
  refine ⟨Int.ediv_nonneg hv (by omega), Int.emod_nonneg _ (by omega), ?_, ?_⟩
  · rw [Int.mul_comm]; exact Int.mul_ediv_add_emod _ _
  · intro t t0 _ h
    rw [expand] at h
    have hts : 0 ≤ t * second := Int.mul_nonneg t0 hs
    generalize high * 1073741824 + next = v at *
    have h1 : t * lead ≤ v := by omega
    exact (Int.le_ediv_iff_mul_le (by omega)).2 h1
theorem GuessInv.step {high next third lead second q r : Int} (h : GuessInv high next third lead second q r) (hr : r < 1073741824) (ht : 0 ≤ third) (hc : 1073741824 ≤ q ∨ r * 1073741824 + third < q * second) (hl : 1 ≤ lead) :
    GuessInv high next third lead second (q - 1) (r + lead) := by
  have h0 := h.q0
  have h1 := h.r0
  have hsum := h.sum
  have hq : 1 ≤ q := by
    rcases hc with hc | hc
    · omega
    · rcases (show q = 0 ∨ 1 ≤ q by omega) with rfl | hq
      · rw [Int.zero_mul] at hc; omega
      · exact hq
  refine ⟨by omega, by omega, by rw [Int.sub_mul]; omega, ?_⟩
  intro t t0 t1 hle
  have hle' := h.most t t0 t1 hle
  rcases (show t = q ∨ t ≤ q - 1 by omega) with rfl | ht'
  · exfalso
    rcases hc with hc | hc
    · omega
    · rw [expand] at hle
      generalize t * second = a at *
      generalize t * lead = b at *
      omega
  · exact ht'
theorem GuessInv.done {high next third lead second q r : Int} (h : GuessInv high next third lead second q r) (hh : high ≤ lead) (hn : next < 1073741824) (ht : 0 ≤ third) (hs : 0 ≤ second) (hs1 : second < 1073741824) (hl : 1 ≤ lead)
    (hc : r < 1073741824 → q < 1073741824 ∧ q * second ≤ r * 1073741824 + third) : GuessOk high next third lead second q := by
  have h0 := h.q0
  have h1 := h.r0
  have hsum := h.sum
  have hq : q < 1073741824 := by
    rcases Int.lt_or_le r 1073741824 with hr | hr
    · exact (hc hr).1
    · rcases Int.lt_or_le q 1073741824 with hq | hq
      · exact hq
      · exfalso
        have h2 : 1073741824 * lead ≤ q * lead := Int.mul_le_mul_of_nonneg_right hq (by omega)
        omega
  refine ⟨h0, hq, ?_, h.most⟩
  rw [expand]
  have h3 : q * second ≤ r * 1073741824 + third := by
    rcases Int.lt_or_le r 1073741824 with hr | hr
    · exact (hc hr).2
    · have h4 : q * second ≤ 1073741823 * second := Int.mul_le_mul_of_nonneg_right (by omega) hs
      omega
  generalize q * second = a at *
  generalize q * lead = b at *
  omega
theorem GuessOk.true {high next third lead second g : Int} (h : GuessOk high next third lead second g) {D V d v P : Int} (hP : 0 < P)
    (hD : D = d + P * ((high * 1073741824 + next) * 1073741824 + third)) (hd0 : 0 ≤ d) (hd1 : d < P) (hV : V = v + P * (lead * 1073741824 + second)) (hv0 : 0 ≤ v) (hv1 : v < P) (hl : 1 ≤ lead) (hs : 0 ≤ second)
    (hDV : D < 1073741824 * V) (hD0 : 0 ≤ D) : D < (g + 1) * V ∧ g * V ≤ D + V := by
  have g0 := h.g0
  have g1 := h.g1
  have hle := h.le
  have hmost := h.most
  generalize (high * 1073741824 + next) * 1073741824 + third = U3 at *
  have hV2 : 1073741824 ≤ lead * 1073741824 + second := by omega
  generalize lead * 1073741824 + second = V2 at *
  have hPV : P * 1073741824 ≤ P * V2 := Int.mul_le_mul_of_nonneg_left hV2 (by omega)
  have hVpos : 0 < V := by omega
  constructor
  · -- the true quotient is at most g
    have t0 : 0 ≤ D / V := Int.ediv_nonneg hD0 (by omega)
    have t1 : D / V < 1073741824 := Int.ediv_lt_of_lt_mul hVpos hDV
    have e := Int.mul_ediv_add_emod D V
    have m1 := Int.emod_lt_of_pos D hVpos
    have m0 := Int.emod_nonneg D (show V ≠ 0 by omega)
    generalize D / V = t at *
    generalize D % V = m at *
    have htg : t ≤ g := by
      refine hmost t t0 t1 ?_
      have hv : 0 ≤ t * v := Int.mul_nonneg t0 hv0
      have e2 : V * t = t * v + P * (t * V2) := by rw [hV, Int.add_mul, Int.mul_comm v t, Int.mul_assoc, Int.mul_comm V2 t]
      have h5 : P * (t * V2) < P * (U3 + 1) := by rw [Int.mul_add]; omega
      have := Int.lt_of_mul_lt_mul_left h5 (Int.le_of_lt hP)
      omega
    have h6 : t * V ≤ g * V := Int.mul_le_mul_of_nonneg_right htg (by omega)
    rw [Int.add_mul]
    rw [Int.mul_comm V t] at e
    omega
  · have e2 : g * V = g * v + P * (g * V2) := by rw [hV, Int.mul_add, Int.mul_left_comm]
    have h5 : P * (g * V2) ≤ P * U3 := Int.mul_le_mul_of_nonneg_left hle (by omega)
    have h6 : g * v ≤ 1073741823 * v := Int.mul_le_mul_of_nonneg_right (by omega) hv0
    omega
end Go.Proofs.YtgdbcpljdibliaaGreatDoor.Lmb

/- Long division: one round of the outer loop. -/
namespace Go.Proofs.YtgdbcpljdibliaaGreatDoor.Lmb
structure SubMul (us u v : List Int) (g : Int) (j i : Nat) (c : Int) : Prop where
  len : us.length = u.length
  limbs : Limbs us
  c0 : -1073741824 < c
  c1 : c ≤ 0
  val : val us + pw (j + i) * c = val u - pw j * (g * val (v.take i))
  rest : ∀ t, j + i ≤ t → us.getD t 0 = u.getD t 0
theorem SubMul.start {u : List Int} (hu : Limbs u) (v : List Int) (g : Int) (j : Nat) : SubMul u u v g j 0 0 :=
  ⟨rfl, hu, by omega, by omega, by simp [val_nil], fun _ _ => rfl⟩
theorem SubMul.step {us u v : List Int} {g c : Int} {j i : Nat} (h : SubMul us u v g j i c) (hv : Limbs v) (g0 : 0 ≤ g) (g1 : g < 1073741824) (hi : i < v.length) (hj : j + i < u.length) :
    SubMul (us.set (j + i) ((us.getD (j + i) 0 - g * v.getD i 0 + c) % 1073741824)) u v g j (i + 1) ((us.getD (j + i) 0 - g * v.getD i 0 + c) / 1073741824) := by
  have bv := limbs_getD hv i
  have bo := limbs_getD h.limbs (j + i)
  have hp := limb_prod ⟨g0, g1⟩ bv
  have hl := h.len
  have h0 := h.c0
  have h1 := h.c1
  have hval := h.val
  have ht := val_take_succ v i hi
  have hs := val_set us (j + i) (by omega) ((us.getD (j + i) 0 - g * v.getD i 0 + c) % 1073741824)
  generalize hY : v.getD i 0 = y at *
  generalize hO : us.getD (j + i) 0 = o at *
  generalize hG : g * y = p at *
  refine ⟨by simpa using hl, limbs_set h.limbs _ _ (by omega), by omega, by omega, ?_, fun t hlt => ?_⟩
  · have e1 : pw (j + (i + 1)) = 1073741824 * pw (j + i) := by rw [← Nat.add_assoc, pw_succ]
    have e2 : pw j * (g * (pw i * y)) = pw (j + i) * p := by rw [pw_add, ← hG]; simp only [Int.mul_assoc, Int.mul_left_comm]
    rw [hs, ht, e1, Int.mul_add g, Int.mul_add (pw j), e2]
    have e3 : 1073741824 * ((o - p + c) / 1073741824) + (o - p + c) % 1073741824 = o - p + c := Int.mul_ediv_add_emod _ _
    have e4 : pw (j + i) * (1073741824 * ((o - p + c) / 1073741824) + (o - p + c) % 1073741824) = pw (j + i) * (o - p + c) := by rw [e3]
    rw [Int.mul_add, Int.mul_add, Int.mul_sub, Int.mul_left_comm] at e4
    rw [Int.mul_sub, Int.mul_assoc]
    omega
  · rw [getD_set _ _ _ (by omega), if_neg (by omega)]
    exact h.rest t (by omega)
structure AddBack (ws us v : List Int) (j i : Nat) (c : Int) : Prop where
  len : ws.length = us.length
  limbs : Limbs ws
  c0 : 0 ≤ c
  c1 : c ≤ 1
  val : val ws + pw (j + i) * c = val us + pw j * val (v.take i)
  rest : ∀ t, j + i ≤ t → ws.getD t 0 = us.getD t 0
theorem AddBack.start {us : List Int} (hu : Limbs us) (v : List Int) (j : Nat) : AddBack us us v j 0 0 :=
  ⟨rfl, hu, by omega, by omega, by simp [val_nil], fun _ _ => rfl⟩
theorem AddBack.step {ws us v : List Int} {c : Int} {j i : Nat} (h : AddBack ws us v j i c) (hv : Limbs v) (hi : i < v.length) (hj : j + i < us.length) :
    AddBack (ws.set (j + i) ((ws.getD (j + i) 0 + v.getD i 0 + c) % 1073741824)) us v j (i + 1) ((ws.getD (j + i) 0 + v.getD i 0 + c) / 1073741824) := by
  have bv := limbs_getD hv i
  have bo := limbs_getD h.limbs (j + i)
  have hl := h.len
  have h0 := h.c0
  have h1 := h.c1
  have hval := h.val
  have ht := val_take_succ v i hi
  have hs := val_set ws (j + i) (by omega) ((ws.getD (j + i) 0 + v.getD i 0 + c) % 1073741824)
  generalize hY : v.getD i 0 = y at *
  generalize hO : ws.getD (j + i) 0 = o at *
  refine ⟨by simpa using hl, limbs_set h.limbs _ _ (by omega), by omega, by omega, ?_, fun t hlt => ?_⟩
  · have e1 : pw (j + (i + 1)) = 1073741824 * pw (j + i) := by rw [← Nat.add_assoc, pw_succ]
    have e2 : pw j * (pw i * y) = pw (j + i) * y := by rw [pw_add, Int.mul_assoc]
    rw [hs, ht, e1, Int.mul_add (pw j), e2]
    have e3 : 1073741824 * ((o + y + c) / 1073741824) + (o + y + c) % 1073741824 = o + y + c := Int.mul_ediv_add_emod _ _
    have e4 : pw (j + i) * (1073741824 * ((o + y + c) / 1073741824) + (o + y + c) % 1073741824) = pw (j + i) * (o + y + c) := by rw [e3]
    rw [Int.mul_add, Int.mul_add, Int.mul_add, Int.mul_left_comm] at e4
    rw [Int.mul_sub, Int.mul_assoc]
    omega
  · rw [getD_set _ _ _ (by omega), if_neg (by omega)]
    exact h.rest t (by omega)
theorem val_zero_of {xs : List Int} (h : ∀ t, xs.getD t 0 = 0) : val xs = 0 := by
  induction xs with
  | nil => rfl
  | cons x r ih =>
    have h0 := h 0
    rw [List.getD_cons_zero] at h0
    rw [val_cons, h0, ih (fun t => by have := h (t + 1); rwa [List.getD_cons_succ] at this)]
    rfl
theorem getD_drop (xs : List Int) (j t : Nat) : (xs.drop j).getD t 0 = xs.getD (j + t) 0 := by
  simp [List.getD]
theorem zero_of_val {xs : List Int} (hl : Limbs xs) (h : val xs = 0) : ∀ t, xs.getD t 0 = 0 := by
  induction xs with
  | nil => intro t; simp [List.getD]
  | cons x r ih =>
    rw [limbs_cons] at hl
    have hn := val_nonneg hl.2
    rw [val_cons] at h
    have hx : x = 0 := by omega
    have hr : Lmb.val r = 0 := by omega
    intro t
    cases t with
    | zero => rw [List.getD_cons_zero]; exact hx
    | succ t => rw [List.getD_cons_succ]; exact ih hl.2 hr t
theorem val_drop_congr {xs ys : List Int} {k : Nat} (hl : xs.length = ys.length) (h : ∀ t, k ≤ t → xs.getD t 0 = ys.getD t 0) : val (xs.drop k) = val (ys.drop k) := by
  have e : xs.drop k = ys.drop k := by
    apply List.ext_getElem
    · simp [hl]
    · intro i h1 h2
      have := h (k + i) (by omega)
      simp only [List.length_drop] at h1 h2
      rw [List.getElem_drop, List.getElem_drop]
      simpa [List.getD, show k + i < xs.length by omega, show k + i < ys.length by omega] using this
  rw [e]
structure DivInv (A V : Int) (u q : List Int) (lu lq j : Nat) : Prop where
  ulen : u.length = lu
  qlen : q.length = lq
  ulimbs : Limbs u
  qlimbs : Limbs q
  eq : A = val (q.drop j) * (pw j * V) + val u
  lt : val u < pw j * V
structure Divisor (v : List Int) (V : Int) (n : Nat) : Prop where
  len : v.length = n + 1
  limbs : Limbs v
  val : val v = V
  lt : V < pw n
  two : 2 ≤ n
  lead : 1 ≤ v.getD (n - 1) 0
theorem Divisor.split {v : List Int} {V : Int} {n : Nat} (h : Divisor v V n) : V = Lmb.val (v.take (n - 2)) + pw (n - 2) * (v.getD (n - 1) 0 * 1073741824 + v.getD (n - 2) 0) := by
  have hl := h.len
  have h2 := h.two
  have hn0 := val_nonneg (limbs_drop h.limbs n)
  have ht0 := val_nonneg (limbs_take h.limbs n)
  have htop : Lmb.val (v.drop n) = 0 := by
    have e := val_split v n (by omega)
    rw [h.val] at e
    have hlt := h.lt
    have hp := pw_pos n
    rcases (show Lmb.val (v.drop n) = 0 ∨ 1 ≤ Lmb.val (v.drop n) by omega) with h | h
    · exact h
    · have : pw n * 1 ≤ pw n * Lmb.val (v.drop n) := Int.mul_le_mul_of_nonneg_left h (by omega)
      omega
  have e := val_split v (n - 2) (by omega)
  have e1 := val_drop v (n - 2) (by omega)
  have e2 := val_drop v (n - 1) (by omega)
  have i1 : n - 2 + 1 = n - 1 := by omega
  have i2 : n - 1 + 1 = n := by omega
  rw [i1] at e1
  rw [i2, htop] at e2
  rw [← h.val, e, e1, e2]
  have : v.getD (n - 2) 0 + 1073741824 * (v.getD (n - 1) 0 + 1073741824 * 0) = v.getD (n - 1) 0 * 1073741824 + v.getD (n - 2) 0 := by omega
  rw [this]
structure Window (u : List Int) (V : Int) (n j : Nat) (D d U3 : Int) : Prop where
  isD : D = val (u.drop j)
  lt : D < 1073741824 * V
  nonneg : 0 ≤ D
  eq : D = d + pw (n - 2) * U3
  d0 : 0 ≤ d
  d1 : d < pw (n - 2)
  above : val (u.drop (j + n + 1)) = 0
theorem window {A V : Int} {u q v : List Int} {lu lq j n : Nat} (h : DivInv A V u q lu lq (j + 1)) (hv : Divisor v V n) (hj : j + n < lu) :
    ∃ D d, Window u V n j D d ((u.getD (j + n) 0 * 1073741824 + u.getD (j + n - 1) 0) * 1073741824 + u.getD (j + n - 2) 0) := by
  have hl := h.ulen
  have h2 := hv.two
  have hlt := h.lt
  have e0 := val_split u j (by omega)
  have t0 := val_nonneg (limbs_take h.ulimbs j)
  have D0 := val_nonneg (limbs_drop h.ulimbs j)
  have hpj := pw_pos j
  have hD : Lmb.val (u.drop j) < 1073741824 * V := by
    have hp : pw (j + 1) * V = pw j * (1073741824 * V) := by
      rw [pw_succ]; simp only [Int.mul_assoc, Int.mul_left_comm]
    have : pw j * Lmb.val (u.drop j) < pw j * (1073741824 * V) := by
      rw [hp] at hlt
      generalize pw j * (1073741824 * V) = a at *
      omega
    exact Int.lt_of_mul_lt_mul_left this (Int.le_of_lt hpj)
  have d0 := val_nonneg (limbs_take (limbs_drop h.ulimbs j) (n - 2))
  have d1 := val_lt (limbs_take (limbs_drop h.ulimbs j) (n - 2))
  rw [List.length_take, List.length_drop, Nat.min_eq_left (by omega)] at d1
  have e1 := val_split (u.drop j) (n - 2) (by simp; omega)
  rw [List.drop_drop] at e1
  have f1 := val_drop u (j + (n - 2)) (by omega)
  have f2 := val_drop u (j + n - 1) (by omega)
  have f3 := val_drop u (j + n) (by omega)
  have i0 : j + (n - 2) = j + n - 2 := by omega
  have i1 : j + n - 2 + 1 = j + n - 1 := by omega
  have i2 : j + n - 1 + 1 = j + n := by omega
  rw [i0] at e1 f1
  rw [i1] at f1
  rw [i2] at f2
  have z0 := val_nonneg (limbs_drop h.ulimbs (j + n + 1))
  have b1 := limbs_getD h.ulimbs (j + n)
  have b2 := limbs_getD h.ulimbs (j + n - 1)
  have b3 := limbs_getD h.ulimbs (j + n - 2)
  have hz : Lmb.val (u.drop (j + n + 1)) = 0 := by
    rcases (show Lmb.val (u.drop (j + n + 1)) = 0 ∨ 1 ≤ Lmb.val (u.drop (j + n + 1)) by omega) with h | h
    · exact h
    · exfalso
      have hvl := hv.lt
      have hp : pw n = 1073741824 * (1073741824 * pw (n - 2)) := by rw [← pw_succ, ← pw_succ]; congr 1; omega
      have hpp := pw_pos (n - 2)
      have g1 : 1073741824 * 1073741824 * 1073741824 ≤ Lmb.val (u.drop (j + n - 2)) := by omega
      have g2 : pw (n - 2) * (1073741824 * 1073741824 * 1073741824) ≤ pw (n - 2) * Lmb.val (u.drop (j + n - 2)) := Int.mul_le_mul_of_nonneg_left g1 (by omega)
      omega
  refine ⟨Lmb.val (u.drop j), Lmb.val ((u.drop j).take (n - 2)), rfl, hD, D0, ?_, d0, d1, hz⟩
  rw [e1, f1, f2, f3, hz]
  congr 2
  omega
theorem Window.high {u v : List Int} {V D d next third high : Int} {n j : Nat} (h : Window u V n j D d ((high * 1073741824 + next) * 1073741824 + third)) (hv : Divisor v V n) (n0 : 0 ≤ next) (t0 : 0 ≤ third) : high ≤ v.getD (n - 1) 0 := by
  have hs := hv.split
  have d0 := h.d0
  have hlt := h.lt
  have he := h.eq
  have v0 := val_nonneg (limbs_take hv.limbs (n - 2))
  have v1 := val_lt (limbs_take hv.limbs (n - 2))
  rw [List.length_take, Nat.min_eq_left (by have := hv.len; omega)] at v1
  have bs := limbs_getD hv.limbs (n - 2)
  have hp := pw_pos (n - 2)
  generalize v.getD (n - 1) 0 = lead at *
  generalize v.getD (n - 2) 0 = second at *
  generalize Lmb.val (v.take (n - 2)) = vl at *
  generalize pw (n - 2) = P at *
  rcases Int.lt_or_le lead high with hc | hc
  · exfalso
    have g1 : lead * 1073741824 + second + 1 ≤ high * 1073741824 := by omega
    have g2 : P * (lead * 1073741824 + second + 1) ≤ P * (high * 1073741824) := Int.mul_le_mul_of_nonneg_left g1 (by omega)
    have g3 : P * ((high * 1073741824) * 1073741824) ≤ P * ((high * 1073741824 + next) * 1073741824 + third) := Int.mul_le_mul_of_nonneg_left (by omega) (by omega)
    rw [Int.mul_add P, Int.mul_one] at g2
    rw [← Int.mul_assoc] at g3
    omega
  · exact hc
theorem sub_end {A V : Int} {u q v us : List Int} {lu lq j n : Nat} {D d U3 g c : Int} (h : DivInv A V u q lu lq (j + 1)) (hv : Divisor v V n) (hj : j + n < lu) (hq : j < lq) (hw : Window u V n j D d U3)
    (hg0 : 0 ≤ g) (hg1 : g < 1073741824) (hlo : D < (g + 1) * V) (hs : SubMul us u v g j (n + 1) c) (hc : ¬ c < 0) : DivInv A V us (q.set j g) lu lq j := by
  have hcz : c = 0 := by have := hs.c1; omega
  have hval := hs.val
  rw [hcz, List.take_of_length_le (by have := hv.len; omega), hv.val] at hval
  have hul := h.ulen
  have hql := h.qlen
  have e0 := val_split u j (by omega)
  have t1 := val_lt (limbs_take h.ulimbs j)
  rw [List.length_take, Nat.min_eq_left (by omega)] at t1
  have eD := hw.isD
  rw [← eD] at e0
  have hpj := pw_pos j
  have hA := h.eq
  have e2 := val_drop (q.set j g) j (by simp; omega)
  have e3 : (q.set j g).drop (j + 1) = q.drop (j + 1) := by rw [List.drop_set_of_lt (by omega)]
  rw [getD_set _ _ _ (by omega), if_pos rfl, e3] at e2
  refine ⟨by rw [hs.len]; exact hul, by simpa using hql, hs.limbs, limbs_set h.qlimbs _ _ ⟨hg0, hg1⟩, ?_, ?_⟩
  · rw [e2, hA, pw_succ]
    generalize Lmb.val (q.drop (j + 1)) = Q at *
    have x1 : (g + 1073741824 * Q) * (pw j * V) = pw j * (g * V) + Q * (1073741824 * pw j * V) := by
      rw [Int.add_mul]
      simp only [Int.mul_assoc, Int.mul_left_comm, Int.mul_comm]
    rw [x1]; omega
  · have g1 : pw j * (D + 1) ≤ pw j * ((g + 1) * V) := Int.mul_le_mul_of_nonneg_left (by omega) (by omega)
    rw [Int.add_mul, Int.mul_add, Int.mul_add, Int.one_mul, Int.mul_one] at g1
    omega
theorem back_end {A V : Int} {u q v us ws : List Int} {lu lq j n : Nat} {D d U3 g c c2 : Int} (h : DivInv A V u q lu lq (j + 1)) (hv : Divisor v V n) (hj : j + n < lu) (hq : j < lq) (hw : Window u V n j D d U3)
    (hg1 : g < 1073741824) (hhi : g * V ≤ D + V) (hs : SubMul us u v g j (n + 1) c) (hc : c < 0) (hb : AddBack ws us v j (n + 1) c2) (g0 : 0 ≤ g) : 1 ≤ g ∧ DivInv A V ws (q.set j (g - 1)) lu lq j := by
  have hval := hs.val
  have hbv := hb.val
  rw [List.take_of_length_le (by have := hv.len; omega), hv.val] at hval hbv
  have hul := h.ulen
  have hql := h.qlen
  have e0 := val_split u j (by omega)
  have t0 := val_nonneg (limbs_take h.ulimbs j)
  have t1 := val_lt (limbs_take h.ulimbs j)
  rw [List.length_take, Nat.min_eq_left (by omega)] at t1
  have eD := hw.isD
  rw [← eD] at e0
  have hpj := pw_pos j
  have hA := h.eq
  have hD0 := hw.nonneg
  have za := zero_of_val (limbs_drop h.ulimbs _) hw.above
  have hsl := hs.len
  have hbl := hb.len
  have zs : Lmb.val (us.drop (j + n + 1)) = 0 := by
    rw [val_drop_congr hsl (fun t ht => hs.rest t (by omega))]; exact hw.above
  have zw : Lmb.val (ws.drop (j + n + 1)) = 0 := by
    rw [val_drop_congr hbl (fun t ht => hb.rest t (by omega))]; exact zs
  have es := val_split us (j + n + 1) (by omega)
  have ew := val_split ws (j + n + 1) (by omega)
  rw [zs] at es
  rw [zw] at ew
  have s0 := val_nonneg (limbs_take hs.limbs (j + n + 1))
  have s1 := val_lt (limbs_take hs.limbs (j + n + 1))
  have w0 := val_nonneg (limbs_take hb.limbs (j + n + 1))
  have w1 := val_lt (limbs_take hb.limbs (j + n + 1))
  rw [List.length_take, Nat.min_eq_left (by omega)] at s1 w1
  rw [Int.mul_zero, Int.add_zero] at es ew
  rw [← es] at s0 s1
  rw [← ew] at w0 w1
  have hpn : pw (j + n + 1) = 1073741824 * (pw j * pw n) := by rw [pw_succ, pw_add]
  have i1 : j + (n + 1) = j + n + 1 := by omega
  rw [i1] at hval hbv
  have hpp := pw_pos (j + n + 1)
  have hneg : D < g * V := by
    rcases Int.lt_or_le D (g * V) with hx | hx
    · exact hx
    · exfalso
      have : pw j * (g * V) ≤ pw j * D := Int.mul_le_mul_of_nonneg_left hx (by omega)
      have x2 : pw (j + n + 1) * c ≤ pw (j + n + 1) * (-1) := Int.mul_le_mul_of_nonneg_left (by omega) (by omega)
      omega
  have hg : 1 ≤ g := by
    rcases (show g = 0 ∨ 1 ≤ g by omega) with hx | hx
    · rw [hx, Int.zero_mul] at hneg; omega
    · exact hx
  have hVn := hv.lt
  have y1 : pw j * (g * V) ≤ pw j * (D + V) := Int.mul_le_mul_of_nonneg_left hhi (by omega)
  have y2 : pw j * (D + 1) ≤ pw j * (g * V) := Int.mul_le_mul_of_nonneg_left (by omega) (by omega)
  have y3 : pw j * V ≤ pw j * pw n := Int.mul_le_mul_of_nonneg_left (by omega) (by omega)
  have y4 : 0 < pw j * pw n := Int.mul_pos hpj (pw_pos n)
  rw [Int.mul_add, Int.mul_one] at y2
  rw [Int.mul_add] at y1
  have hcm : c = -1 := by
    rcases (show c = -1 ∨ c ≤ -2 by omega) with hx | hx
    · exact hx
    · exfalso
      have x2 : pw (j + n + 1) * c ≤ pw (j + n + 1) * (-2) := Int.mul_le_mul_of_nonneg_left hx (by omega)
      omega
  rw [hcm] at hval
  have hc2 : c2 = 1 := by
    have := hb.c0
    have := hb.c1
    rcases (show c2 = 0 ∨ c2 = 1 by omega) with hx | hx
    · exfalso; rw [hx] at hbv; omega
    · exact hx
  rw [hc2] at hbv
  have hfin : Lmb.val ws = Lmb.val u - pw j * (g * V) + pw j * V := by omega
  have e2 := val_drop (q.set j (g - 1)) j (by simp; omega)
  have e3 : (q.set j (g - 1)).drop (j + 1) = q.drop (j + 1) := by rw [List.drop_set_of_lt (by omega)]
  rw [getD_set _ _ _ (by omega), if_pos rfl, e3] at e2
  refine ⟨hg, by rw [hbl, hsl]; exact hul, by simpa using hql, hb.limbs, limbs_set h.qlimbs _ _ ⟨by omega, by omega⟩, ?_, ?_⟩
  · rw [e2, hA, pw_succ]
    generalize Lmb.val (q.drop (j + 1)) = Q at *
    have x1 : (g - 1 + 1073741824 * Q) * (pw j * V) = pw j * (g * V) - pw j * V + Q * (1073741824 * pw j * V) := by
      have y1 : g * (pw j * V) = pw j * (g * V) := Int.mul_left_comm _ _ _
      have y2 : 1073741824 * Q * (pw j * V) = Q * (1073741824 * pw j * V) := by simp only [Int.mul_assoc, Int.mul_left_comm]
      rw [Int.add_mul, Int.sub_mul, Int.one_mul, y1, y2]
    rw [x1]; omega
  · omega
end Go.Proofs.YtgdbcpljdibliaaGreatDoor.Lmb

/- Shifts by less than a limb: plain laws. -/
namespace Go.Proofs.YtgdbcpljdibliaaGreatDoor.Lmb
theorem two_pow_base {s : Nat} (hs : s ≤ 29) : ∃ c : Int, 2 ≤ c ∧ (2 : Int) ^ s * c = 1073741824 ∧ 1 ≤ (2 : Int) ^ s ∧ (2 : Int) ^ s ≤ 536870912 := by
  refine ⟨2 ^ (30 - s), ?_, ?_, ?_, ?_⟩
  · have h : (2 : Nat) ^ 1 ≤ 2 ^ (30 - s) := Nat.pow_le_pow_right (by decide) (by omega)
    have : ((2 ^ (30 - s) : Nat) : Int) = (2 : Int) ^ (30 - s) := by simp
    omega
  · rw [← Int.pow_add]
    have : s + (30 - s) = 30 := by omega
    rw [this]; decide
  · have h : 1 ≤ (2 : Nat) ^ s := Nat.one_le_two_pow
    have : ((2 ^ s : Nat) : Int) = (2 : Int) ^ s := by simp
    omega
  · have h : (2 : Nat) ^ s ≤ 2 ^ 29 := Nat.pow_le_pow_right (by decide) hs
    have h2 : (2 : Nat) ^ 29 = 536870912 := by decide
    have : ((2 ^ s : Nat) : Int) = (2 : Int) ^ s := by simp
    omega
theorem shl_bound {x : Int} {s : Nat} (hx : 0 ≤ x ∧ x < 1073741824) (hs : s ≤ 29) : 0 ≤ x * 2 ^ s ∧ x * 2 ^ s ≤ 576460752303423488 := by
  obtain ⟨c, _, _, p0, p1⟩ := two_pow_base hs
  refine ⟨Int.mul_nonneg hx.1 (by omega), ?_⟩
  have : x * 2 ^ s ≤ 1073741824 * 2 ^ s := Int.mul_le_mul_of_nonneg_right (by omega) (by omega)
  omega
theorem shl_low {x : Int} {s : Nat} (hs : s ≤ 29) : (x * 2 ^ s) % 1073741824 ≤ 1073741824 - 2 ^ s ∧ ∃ y, (x * 2 ^ s) % 1073741824 = 2 ^ s * y := by
  obtain ⟨c, c2, hc, p0, p1⟩ := two_pow_base hs
  have e : (x * 2 ^ s) % 1073741824 = 2 ^ s * (x % c) := by
    rw [← hc, Int.mul_comm x, Int.mul_emod_mul_of_pos _ _ (by omega)]
  have h1 := Int.emod_lt_of_pos x (show 0 < c by omega)
  have h2 : (2 : Int) ^ s * (x % c) ≤ 2 ^ s * (c - 1) := Int.mul_le_mul_of_nonneg_left (by omega) (by omega)
  rw [Int.mul_sub, hc] at h2
  exact ⟨by rw [e]; omega, _, e⟩
structure ShiftInv (xs os : List Int) (s i : Nat) : Prop where
  len : os.length = xs.length + 1
  limbs : Limbs os
  val : val os = val (xs.take i) * 2 ^ s
  low : os.getD i 0 < 2 ^ s
  zero : ∀ t, i < t → os.getD t 0 = 0
theorem ShiftInv.start (xs : List Int) {s : Nat} (hs : s ≤ 29) : ShiftInv xs (List.replicate (xs.length + 1) 0) s 0 := by
  obtain ⟨c, _, _, p0, p1⟩ := two_pow_base hs
  have hz : ∀ t, (List.replicate (xs.length + 1) (0 : Int)).getD t 0 = 0 := fun t => by
    simp only [List.getD, List.getElem?_replicate]; split <;> rfl
  exact ⟨by simp, limbs_replicate _, by simp [val_replicate, val_nil], by rw [hz]; omega, fun t _ => hz t⟩
theorem ShiftInv.step {xs os : List Int} {s i : Nat} (h : ShiftInv xs os s i) (hx : Limbs xs) (hs : s ≤ 29) (hi : i < xs.length) :
    ShiftInv xs ((os.set i (os.getD i 0 + (xs.getD i 0 * 2 ^ s) % 1073741824)).set (i + 1) ((xs.getD i 0 * 2 ^ s) / 1073741824)) s (i + 1) := by
  have bx := limbs_getD hx i
  have bo := limbs_getD h.limbs i
  have hl := h.len
  have hv := h.val
  have hlow := h.low
  have hb := shl_bound bx hs
  obtain ⟨hr, _⟩ := shl_low (x := xs.getD i 0) hs
  obtain ⟨c, _, _, p0, p1⟩ := two_pow_base hs
  have ht := val_take_succ xs i hi
  have hy : xs.getD i 0 * 2 ^ s / 1073741824 < 2 ^ s := by
    refine Int.ediv_lt_of_lt_mul (by omega) ?_
    rw [Int.mul_comm (2 ^ s)]
    exact Int.mul_lt_mul_of_pos_right bx.2 (by omega)
  have hs1 := val_set os i (by omega) (os.getD i 0 + (xs.getD i 0 * 2 ^ s) % 1073741824)
  have hs2 := val_set (os.set i (os.getD i 0 + (xs.getD i 0 * 2 ^ s) % 1073741824)) (i + 1) (by simp; omega) ((xs.getD i 0 * 2 ^ s) / 1073741824)
  rw [getD_set _ _ _ (by omega), if_neg (by omega), h.zero (i + 1) (by omega), hs1] at hs2
  have e3 : 1073741824 * (xs.getD i 0 * 2 ^ s / 1073741824) + xs.getD i 0 * 2 ^ s % 1073741824 = xs.getD i 0 * 2 ^ s := Int.mul_ediv_add_emod _ _
  have e5 : (Lmb.val (xs.take i) + pw i * xs.getD i 0) * 2 ^ s = Lmb.val (xs.take i) * 2 ^ s + pw i * (xs.getD i 0 * 2 ^ s) := by
    rw [Int.add_mul, Int.mul_assoc]
  generalize xs.getD i 0 * 2 ^ s = y at *
  generalize os.getD i 0 = o at *
  refine ⟨by simpa using hl, limbs_set (limbs_set h.limbs _ _ (by omega)) _ _ (by omega), ?_, ?_, fun t hlt => ?_⟩
  · have e4 : pw i * (1073741824 * (y / 1073741824) + y % 1073741824) = pw i * y := by rw [e3]
    rw [Int.mul_add, Int.mul_left_comm] at e4
    have ec : o + y % 1073741824 - o = y % 1073741824 := by omega
    rw [hs2, ht, e5, pw_succ, Int.sub_zero, ec, Int.mul_assoc]
    omega
  · rw [getD_set _ _ _ (by simp; omega), if_pos rfl]; exact hy
  · rw [getD_set _ _ _ (by simp; omega), if_neg (by omega), getD_set _ _ _ (by omega), if_neg (by omega)]
    exact h.zero t (by omega)
theorem ShiftInv.done {xs os : List Int} {s : Nat} (h : ShiftInv xs os s xs.length) : Lmb.val os = Lmb.val xs * 2 ^ s := by
  have := h.val
  rwa [List.take_of_length_le (Nat.le_refl _)] at this
structure BackInv (rs os : List Int) (s i : Nat) : Prop where
  len : os.length = rs.length
  limbs : Limbs os
  val : val (os.drop i) = val (rs.drop i) / 2 ^ s
theorem BackInv.start (rs : List Int) (s : Nat) : BackInv rs (List.replicate rs.length 0) s rs.length :=
  ⟨by simp, limbs_replicate _, by simp [val_nil]⟩
theorem BackInv.step {rs os : List Int} {s i : Nat} (h : BackInv rs os s (i + 1)) (hr : Limbs rs) (hs : s ≤ 29) (hi : i < rs.length) :
    BackInv rs (os.set i ((rs.getD (i + 1) 0 * 1073741824 + rs.getD i 0) / 2 ^ s % 1073741824)) s i := by
  have b0 := limbs_getD hr i
  have b1 := limbs_getD hr (i + 1)
  have hl := h.len
  have hv := h.val
  obtain ⟨c, c2, hc, p0, p1⟩ := two_pow_base hs
  have e1 := val_drop rs i hi
  have e2 := val_drop (os.set i ((rs.getD (i + 1) 0 * 1073741824 + rs.getD i 0) / 2 ^ s % 1073741824)) i (by simp; omega)
  have e3 : (os.set i ((rs.getD (i + 1) 0 * 1073741824 + rs.getD i 0) / 2 ^ s % 1073741824)).drop (i + 1) = os.drop (i + 1) := by rw [List.drop_set_of_lt (by omega)]
  rw [getD_set _ _ _ (by omega), if_pos rfl, e3, hv] at e2
  refine ⟨by simpa using hl, limbs_set h.limbs _ _ (by omega), ?_⟩
  rw [e2, e1]
  have e4 : ∃ X, Lmb.val (rs.drop (i + 1)) = rs.getD (i + 1) 0 + 1073741824 * X := by
    by_cases h1 : i + 1 < rs.length
    · exact ⟨_, val_drop rs (i + 1) h1⟩
    · refine ⟨0, ?_⟩
      rw [List.drop_of_length_le (by omega)]
      have : rs.getD (i + 1) 0 = 0 := by simp [List.getD, show rs.length ≤ i + 1 by omega]
      rw [this]; rfl
  obtain ⟨X, hX⟩ := e4
  rw [hX]
  generalize rs.getD (i + 1) 0 = a at *
  generalize rs.getD i 0 = b at *
  generalize (2 : Int) ^ s = p at *
  rw [← hc]
  have hp : p ≠ 0 := by omega
  have f1 : (a + p * c * X) / p = a / p + c * X := by
    rw [Int.mul_assoc, Int.add_mul_ediv_left _ _ hp]
  have f2 : (b + p * c * (a + p * c * X)) / p = b / p + c * (a + p * c * X) := by
    rw [Int.mul_assoc p c (a + p * c * X), Int.add_mul_ediv_left _ _ hp]
  have f3 : (a * (p * c) + b) / p = b / p + c * a := by
    rw [Int.add_comm, Int.mul_left_comm, Int.add_mul_ediv_left _ _ hp, Int.mul_comm a c]
  rw [f1, f2, f3]
  have q1 := Int.mul_ediv_add_emod a p
  have z0 := Int.emod_nonneg a hp
  have z1 := Int.emod_lt_of_pos a (show 0 < p by omega)
  have y0 : 0 ≤ b / p := Int.ediv_nonneg b0.1 (by omega)
  have y1 : b / p < c := Int.ediv_lt_of_lt_mul (by omega) (by rw [Int.mul_comm]; omega)
  generalize a / p = q at *
  generalize a % p = z at *
  generalize b / p = y at *
  have g1 : c * z ≤ c * (p - 1) := Int.mul_le_mul_of_nonneg_left (by omega) (by omega)
  have g2 : 0 ≤ c * z := Int.mul_nonneg (by omega) z0
  have g3 : c * (p - 1) = p * c - c := by rw [Int.mul_sub, Int.mul_one, Int.mul_comm]
  have g4 : y + c * a = (y + c * z) + p * c * q := by
    rw [← q1, Int.mul_add]
    have : c * (p * q) = p * c * q := by rw [← Int.mul_assoc, Int.mul_comm c p]
    omega
  have g5 : (y + c * a) % (p * c) = y + c * z := by
    rw [g4, Int.add_mul_emod_self_left]
    exact Int.emod_eq_of_lt (by omega) (by omega)
  rw [g5]
  have g6 : c * (a + p * c * X) = c * z + p * c * q + p * c * (c * X) := by
    rw [Int.mul_add, ← q1, Int.mul_add]
    have t1 : c * (p * q) = p * c * q := by rw [← Int.mul_assoc, Int.mul_comm c p]
    have t2 : c * (p * c * X) = p * c * (c * X) := by simp only [Int.mul_assoc, Int.mul_left_comm]
    omega
  rw [g6, Int.mul_add]
  omega
theorem BackInv.done {rs os : List Int} {s R : Nat} (h : BackInv rs os s 0) (hr : Lmb.val rs = R) : Dig (trim os) (R / 2 ^ s) := by
  have hv := h.val
  rw [List.drop_zero, List.drop_zero, hr] at hv
  have hd := dig_trim h.limbs
  rw [hv] at hd
  have e : ((R : Int) / 2 ^ s).toNat = R / 2 ^ s := by
    have : ((2 ^ s : Nat) : Int) = (2 : Int) ^ s := by simp
    rw [← this, ← Int.natCast_ediv]; rfl
  rwa [e] at hd
end Go.Proofs.YtgdbcpljdibliaaGreatDoor.Lmb

/- Long division: the beginning and the end. -/
namespace Go.Proofs.YtgdbcpljdibliaaGreatDoor.Lmb
theorem lead_room {y : Int} {L : Nat} (hy : y < 2 ^ L) (hL : L ≤ 30) : (y + 1) * 2 ^ (30 - L) ≤ 1073741824 := by
  have e : (2 : Int) ^ L * 2 ^ (30 - L) = 1073741824 := by
    rw [← Int.pow_add]
    have : L + (30 - L) = 30 := by omega
    rw [this]; decide
  have hp : 0 < (2 : Int) ^ (30 - L) := Int.pow_pos (by decide)
  rw [← e]
  exact Int.mul_le_mul_of_nonneg_right (by omega) (by omega)
theorem divisor_of {ys vs : List Int} {s n : Nat} (hn : 2 ≤ n) (hl : ys.length = n) (ly : Limbs ys) (ny : Norm ys) (h : ShiftInv ys vs s ys.length) (hs : s ≤ 29) (hr : (ys.getD (n - 1) 0 + 1) * 2 ^ s ≤ 1073741824) :
    Divisor vs (val ys * 2 ^ s) n := by
  obtain ⟨c, _, _, p0, p1⟩ := two_pow_base hs
  have hv := h.done
  have e0 := val_split ys (n - 1) (by omega)
  have e1 := val_drop ys (n - 1) (by omega)
  have i1 : n - 1 + 1 = n := by omega
  have z1 : ys.drop n = [] := List.drop_of_length_le (by omega)
  rw [i1, z1, val_nil, Int.mul_zero, Int.add_zero] at e1
  have t1 := val_lt (limbs_take ly (n - 1))
  rw [List.length_take, Nat.min_eq_left (by omega)] at t1
  have hpos := val_pos ly ny (fun h0 => by rw [h0, List.length_nil] at hl; omega)
  rw [hl] at hpos
  have hp := pw_pos (n - 1)
  have hpn : pw n = 1073741824 * pw (n - 1) := by rw [← pw_succ, i1]
  have b := limbs_getD ly (n - 1)
  have hlt : val ys * 2 ^ s < pw n := by
    have h1 : val ys < pw (n - 1) * (ys.getD (n - 1) 0 + 1) := by
      rw [e0, e1, Int.mul_add (pw (n - 1)) _ 1]; omega
    have h2 : val ys * 2 ^ s < pw (n - 1) * (ys.getD (n - 1) 0 + 1) * 2 ^ s := Int.mul_lt_mul_of_pos_right h1 (by omega)
    have h3 : pw (n - 1) * (ys.getD (n - 1) 0 + 1) * 2 ^ s = pw (n - 1) * ((ys.getD (n - 1) 0 + 1) * 2 ^ s) := Int.mul_assoc _ _ _
    have h4 : pw (n - 1) * ((ys.getD (n - 1) 0 + 1) * 2 ^ s) ≤ pw (n - 1) * 1073741824 := Int.mul_le_mul_of_nonneg_left hr (by omega)
    rw [hpn]; omega
  refine ⟨by rw [h.len, hl], h.limbs, hv, hlt, hn, ?_⟩
  have bl := limbs_getD h.limbs (n - 1)
  rcases (show vs.getD (n - 1) 0 = 0 ∨ 1 ≤ vs.getD (n - 1) 0 by omega) with hz | hz
  · exfalso
    have hlen := h.len
    have f0 := val_split vs (n - 1) (by omega)
    have f1 := val_drop vs (n - 1) (by omega)
    rw [i1, hz] at f1
    have u1 := val_lt (limbs_take h.limbs (n - 1))
    rw [List.length_take, Nat.min_eq_left (by omega)] at u1
    have u0 := val_nonneg (limbs_drop h.limbs n)
    have ge : pw (n - 1) * 1 ≤ val ys * 2 ^ s := Int.mul_le_mul hpos p0 (by omega) (by omega)
    have u2 := val_nonneg (limbs_take h.limbs (n - 1))
    rw [f1] at f0
    rcases (show val (vs.drop n) = 0 ∨ 1 ≤ val (vs.drop n) by omega) with hd | hd
    · rw [hd] at f0; omega
    · have : pw (n - 1) * (1073741824 * 1) ≤ pw (n - 1) * (0 + 1073741824 * val (vs.drop n)) := Int.mul_le_mul_of_nonneg_left (by omega) (by omega)
      omega
  · exact hz
theorem div_start {xs ys us : List Int} {s n : Nat} (hn : 1 ≤ n) (hl : ys.length = n) (hxl : n ≤ xs.length) (lx : Limbs xs) (ly : Limbs ys) (ny : Norm ys) (h : ShiftInv xs us s xs.length) (hs : s ≤ 29) :
    DivInv (val xs * 2 ^ s) (val ys * 2 ^ s) us (List.replicate (xs.length - n + 1) 0) (xs.length + 1) (xs.length - n + 1) (xs.length - n + 1) := by
  obtain ⟨c, _, _, p0, p1⟩ := two_pow_base hs
  have hv := h.done
  have hpos := val_pos ly ny (fun h0 => by rw [h0, List.length_nil] at hl; omega)
  rw [hl] at hpos
  have hx := val_lt lx
  have e : pw (xs.length - n + 1) * pw (n - 1) = pw xs.length := by rw [← pw_add]; congr 1; omega
  refine ⟨h.len, by simp, h.limbs, limbs_replicate _, ?_, ?_⟩
  · rw [List.drop_of_length_le (by simp), val_nil, Int.zero_mul, Int.zero_add, hv]
  · rw [hv]
    have h1 : val xs * 2 ^ s < pw xs.length * 2 ^ s := Int.mul_lt_mul_of_pos_right hx (by omega)
    have h2 : pw (n - 1) * 2 ^ s ≤ val ys * 2 ^ s := Int.mul_le_mul_of_nonneg_right hpos (by omega)
    have h3 : pw (xs.length - n + 1) * (pw (n - 1) * 2 ^ s) ≤ pw (xs.length - n + 1) * (val ys * 2 ^ s) := Int.mul_le_mul_of_nonneg_left h2 (Int.le_of_lt (pw_pos _))
    rw [← Int.mul_assoc, e] at h3
    omega
theorem div_end {xs ys us qs : List Int} {s m n lu lq : Nat} (hx : val xs = m) (hy : val ys = n) (hn : 0 < n) (hs : s ≤ 29) (h : DivInv (val xs * 2 ^ s) (val ys * 2 ^ s) us qs lu lq 0) :
    Dig (trim qs) (m / n) ∧ val us = ((m % n * 2 ^ s : Nat) : Int) := by
  obtain ⟨c, _, _, p0, p1⟩ := two_pow_base hs
  have he := h.eq
  have hlt := h.lt
  have hu := val_nonneg h.ulimbs
  have hq := val_nonneg h.qlimbs
  have hd := dig_trim h.qlimbs
  rw [List.drop_zero, pw_zero, Int.one_mul, hx, hy] at he
  rw [pw_zero, Int.one_mul, hy] at hlt
  obtain ⟨q, hq'⟩ := Int.eq_ofNat_of_zero_le hq
  rw [hq'] at he hd
  have ep : ((2 ^ s : Nat) : Int) = (2 : Int) ^ s := by simp
  have e1 : val us = ((m : Int) - q * n) * 2 ^ s := by
    rw [Int.sub_mul, Int.mul_assoc]; omega
  have hr0 : 0 ≤ (m : Int) - q * n := by
    rcases Int.lt_or_le ((m : Int) - q * n) 0 with hc | hc
    · have : ((m : Int) - q * n) * 2 ^ s ≤ (-1) * 2 ^ s := Int.mul_le_mul_of_nonneg_right (by omega) (by omega)
      omega
    · exact hc
  have hr1 : (m : Int) - q * n < n := by
    rcases Int.lt_or_le ((m : Int) - q * n) n with hc | hc
    · exact hc
    · have : (n : Int) * 2 ^ s ≤ ((m : Int) - q * n) * 2 ^ s := Int.mul_le_mul_of_nonneg_right hc (by omega)
      omega
  obtain ⟨r, hr⟩ := Int.eq_ofNat_of_zero_le hr0
  rw [hr] at hr1 e1
  have hm : m = q * n + r := by
    have : ((m : Nat) : Int) = ((q * n + r : Nat) : Int) := by rw [Int.natCast_add, Int.natCast_mul]; omega
    omega
  have hrn : r < n := by omega
  have d1 : m / n = q := by rw [hm, Nat.add_comm, Nat.add_mul_div_right _ _ hn, Nat.div_eq_of_lt hrn]; omega
  have d2 : m % n = r := by rw [hm, Nat.add_comm, Nat.add_mul_mod_self_right, Nat.mod_eq_of_lt hrn]
  rw [d1, d2]
  refine ⟨by simpa using hd, ?_⟩
  rw [e1, Int.natCast_mul, ep]
theorem div_low {A V : Int} {us qs : List Int} {n lu lq : Nat} (h : DivInv A V us qs lu lq 0) (hV : V < pw n) (hl : n ≤ lu) : val (us.take n) = val us := by
  have hlt := h.lt
  rw [pw_zero, Int.one_mul] at hlt
  have e := val_split us n (by rw [h.ulen]; exact hl)
  have t0 := val_nonneg (limbs_take h.ulimbs n)
  have d0 := val_nonneg (limbs_drop h.ulimbs n)
  have hp := pw_pos n
  rcases (show val (us.drop n) = 0 ∨ 1 ≤ val (us.drop n) by omega) with hd | hd
  · rw [hd] at e; omega
  · exfalso
    have : pw n * 1 ≤ pw n * val (us.drop n) := Int.mul_le_mul_of_nonneg_left hd (by omega)
    omega
end Go.Proofs.YtgdbcpljdibliaaGreatDoor.Lmb

/- The evaluator, part R: large regions that draw their order: what may come when, reckoned by numbers. -/
set_option linter.unusedSimpArgs false
set_option linter.unusedVariables false
namespace Go.Proofs.YtgdbcpljdibliaaGreatDoor
namespace Eng
structure Row where
  need : Nat
  dst : Nat
  looks : Nat
  kind : Nat
  deriving DecidableEq
def maskL : List Nat → Nat
  | [] => 0
  | t :: l => (1 <<< t) ||| maskL l
theorem maskL_bit : ∀ (l : List Nat) (t : Nat), (maskL l).testBit t = l.contains t
  | [], t => by simp [maskL]
  | u :: l, t => by
    rw [maskL, Nat.testBit_or, maskL_bit l t, List.contains_cons]
    congr 1
    rw [Nat.one_shiftLeft, Nat.testBit_two_pow]
    by_cases h : u = t
    · subst h; simp
    · simp [h, Ne.symm h]
def kindB (o : Oper) : Nat := bif wless o.op then 0 else bif loadOp o.op then 1 else 2
def dstOf (o : Oper) : Nat := match o.dst with | some d => d + 1 | none => 0
def rowOf (md : Region.Mode) (ops : Array Oper) (o : Oper) : Row := ⟨maskL ((o.after.toList.filter (Region.binds md)).map (·.on)), dstOf o, maskL (o.looksAt ops), kindB o⟩
def tabOk (md : Region.Mode) (ops : Array Oper) (n : Nat) : List Oper → List Row → Bool
  | [], [] => true
  | o :: l, r :: T => Nat.beq (maskL ((o.after.toList.filter (Region.binds md)).map (·.on))) r.need && Nat.beq (dstOf o) r.dst && Nat.beq (maskL (o.looksAt ops)) r.looks && Nat.beq (kindB o) r.kind && Nat.blt r.need (2 ^ n) && tabOk md ops n l T
  | _, _ => false
theorem tabOk_get {md : Region.Mode} {ops : Array Oper} {n : Nat} : ∀ (l : List Oper) (T : List Row), tabOk md ops n l T = true → T.length = l.length ∧ ∀ (j : Nat) (o : Oper), l[j]? = some o → T[j]? = some (rowOf md ops o) ∧ (rowOf md ops o).need < 2 ^ n
  | [], [], _ => ⟨rfl, fun j o h => by simp at h⟩
  | [], _ :: _, h => by simp [tabOk] at h
  | _ :: _, [], h => by simp [tabOk] at h
  | o :: l, r :: T, h => by
    simp only [tabOk, Bool.and_eq_true, Nat.beq_eq, Nat.blt_eq] at h
    obtain ⟨⟨⟨⟨⟨h1, h2⟩, h3⟩, h4⟩, h5⟩, h6⟩ := h
    obtain ⟨g1, g2⟩ := tabOk_get l T h6
    refine ⟨by simp [g1], fun j o' hj => ?_⟩
    cases j with
    | zero =>
      simp only [List.getElem?_cons_zero, Option.some.injEq] at hj ⊢
      subst hj
      have e : r = rowOf md ops o := by cases r; simp only at *; subst h1; subst h2; subst h3; subst h4; rfl
      rw [← e]
      exact ⟨rfl, h5⟩
    | succ j =>
      simp only [List.getElem?_cons_succ] at hj ⊢
      exact g2 j o' hj
def lst (n mask : Nat) : Array Bool := ((List.range n).map mask.testBit).toArray
theorem lst_getD (n mask j : Nat) (d : Bool) : (lst n mask).getD j d = if j < n then mask.testBit j else d := by
  unfold lst
  by_cases h : j < n
  · simp [Array.getD, h]
  · simp [Array.getD, h]
theorem lst_set {n mask k : Nat} : (lst n mask).setIfInBounds k true = lst n (mask ||| (1 <<< k)) := by
  apply Array.ext'
  unfold lst
  simp only [List.setIfInBounds_toArray]
  apply List.ext_getElem?
  intro j
  rw [List.getElem?_set]
  simp only [List.length_map, List.length_range, List.getElem?_map]
  by_cases hj : j < n
  · rw [List.getElem?_range hj]
    by_cases e : k = j
    · subst e
      rw [if_pos rfl, if_pos hj, Option.map_some, Nat.testBit_or, Nat.one_shiftLeft, Nat.testBit_two_pow]
      simp
    · rw [if_neg e, Option.map_some, Option.map_some, Nat.testBit_or, Nat.one_shiftLeft, Nat.testBit_two_pow]
      simp [e]
  · rw [List.getElem?_eq_none (by simp; omega)]
    split
    · subst_vars; simp [hj]
    · rfl
theorem lst_zero (n : Nat) : lst n 0 = Array.replicate n false := by
  apply Array.ext'
  unfold lst
  apply List.ext_getElem?
  intro j
  simp only [List.getElem?_map, Array.toList_replicate, List.getElem?_replicate]
  by_cases hj : j < n
  · rw [List.getElem?_range hj]; simp [hj]
  · rw [List.getElem?_eq_none (by simp; omega)]; simp [hj]
def allI (f : Nat → Row → Bool) : Nat → List Row → Bool
  | _, [] => true
  | i, r :: T => f i r && allI f (i + 1) T
theorem allI_get {f : Nat → Row → Bool} : ∀ (T : List Row) (i : Nat), allI f i T = true → ∀ (j : Nat) (r : Row), T[j]? = some r → f (i + j) r = true
  | [], i, h, j, r, hj => by simp at hj
  | r :: T, i, h, j, r', hj => by
    simp only [allI, Bool.and_eq_true] at h
    cases j with
    | zero => simp only [List.getElem?_cons_zero, Option.some.injEq] at hj; subst hj; exact h.1
    | succ j =>
      simp only [List.getElem?_cons_succ] at hj
      have := allI_get T (i + 1) h.2 j r' hj
      rwa [Nat.add_right_comm, Nat.add_assoc] at this
def readyR (mask i : Nat) (r : Row) : Bool := !mask.testBit i && Nat.beq (r.need &&& mask) r.need
def apartR (x y : Row) : Bool := (Nat.beq x.dst 0 || (!y.looks.testBit (x.dst - 1) && !Nat.beq y.dst x.dst)) && (Nat.beq y.dst 0 || !x.looks.testBit (y.dst - 1))
def freeR (T : List Row) (mask k : Nat) (rk : Row) : Bool := allI (fun j r => Nat.beq j k || mask.testBit j || r.need.testBit k || apartR rk r) 0 T
def blkR (k : Nat) : Nat → List Row → Nat → Nat
  | _, [], acc => acc
  | j, r :: T, acc => blkR k (j + 1) T (bif Nat.beq j k || !Nat.beq (r.need &&& acc) 0 then acc ||| (1 <<< j) else acc)
def blkC (T : List Row) (k B mask W : Nat) : Bool :=
  allI (fun j r => (!B.testBit j || ((Nat.beq j k || !Nat.beq (r.need &&& B) 0) && !mask.testBit j)) && (Nat.beq j k || mask.testBit j || B.testBit j || W.testBit j)) 0 T && Nat.blt B (2 ^ T.length)
def chkX (T : List Row) (W : Nat) : List Nat → Nat → (Nat → Bool) → Bool
  | [], mask, f => f mask
  | k :: r, mask, f => (match T[k]? with | some rk => readyR mask k rk && freeR T mask k rk && W.testBit k && (Nat.beq rk.kind 0 || (Nat.beq rk.kind 1 && blkC T k (blkR k 0 T 0) mask W)) | none => false) && chkX T W r (mask ||| (1 <<< k)) f
def chkB (T : List Row) : List (Nat × Bool) → Nat → Bool
  | [], mask => allI (fun j r => !readyR mask j r) 0 T
  | (k, false) :: r, mask => (match T[k]? with | some rk => readyR mask k rk | none => false) && allI (fun j r => Nat.beq j k || !readyR mask j r) 0 T && chkB T r (mask ||| (1 <<< k))
  | (k, true) :: r, mask => (match T[k]? with | some rk => readyR mask k rk && Nat.beq rk.kind 0 && freeR T mask k rk | none => false) && chkB T r (mask ||| (1 <<< k))
def chkR (T : List Row) (X : List Nat) (B : List (Nat × Bool)) (ws : List Nat) : Bool := chkX T (maskL X ||| maskL ws) X 0 fun mask => chkB T B mask
def keepC (l : List Oper) (T : List Row) (X : List Nat) (B : List (Nat × Bool)) (ws : List Nat) : Bool := Region.noSelect l.toArray && tabOk .any l.toArray l.length l T && chkR T X B ws && Nat.beq (X.length + B.length) l.length
def BT.seq : List (Nat × Bool) → BT
  | [] => .done
  | (i, false) :: r => .one i (BT.seq r)
  | (i, true) :: r => .free i (BT.seq r)
theorem btseq_nil : BT.seq [] = .done := rfl
theorem btseq_cons (i : Nat) (r : List (Nat × Bool)) : BT.seq ((i, false) :: r) = .one i (BT.seq r) := rfl
theorem btseq_free (i : Nat) (r : List (Nat × Bool)) : BT.seq ((i, true) :: r) = .free i (BT.seq r) := rfl
section
variable {l : List Oper} {T : List Row} {mask : Nat}
theorem ready_iff (ht : tabOk .any l.toArray l.length l T = true) {j : Nat} {r : Row} (hr : T[j]? = some r) : (j ∈ Region.ready .any l.toArray (lst l.length mask)) ↔ readyR mask j r = true := by
  obtain ⟨hlen, hget⟩ := tabOk_get l T ht
  have hj : j < l.length := by rw [← hlen]; exact (List.getElem?_eq_some_iff.1 hr).1
  obtain ⟨h1, h2⟩ := hget j l[j] (by simp [hj])
  rw [hr, Option.some.injEq] at h1
  subst h1
  rw [mem_ready, lst_getD, if_pos hj]
  unfold readyR
  simp only [Bool.and_eq_true, Bool.not_eq_true', Nat.beq_eq]
  refine and_congr Iff.rfl ?_
  have hbit : ∀ t, (rowOf .any l.toArray l[j]).need.testBit t = true ↔ ∃ e ∈ l[j].after, Region.binds .any e = true ∧ e.on = t := by
    intro t
    simp only [rowOf, maskL_bit, List.contains_iff_mem, List.mem_map, List.mem_filter, Array.mem_toList_iff]
    constructor
    · rintro ⟨e, ⟨h1, h2⟩, h3⟩; exact ⟨e, h1, h2, h3⟩
    · rintro ⟨e, h1, h2, h3⟩; exact ⟨e, ⟨h1, h2⟩, h3⟩
  have hlt : ∀ t, (rowOf .any l.toArray l[j]).need.testBit t = true → t < l.length := by
    intro t ht
    rcases Nat.lt_or_ge t l.length with h | h
    · exact h
    · have := Nat.testBit_lt_two_pow (Nat.lt_of_lt_of_le h2 (Nat.pow_le_pow_right (by omega) h))
      rw [this] at ht; cases ht
  constructor
  · rintro ⟨o, ho, hall⟩
    have ho' : o = l[j] := by simpa [hj] using ho.symm
    subst ho'
    apply Nat.eq_of_testBit_eq
    intro t
    rw [Nat.testBit_and]
    cases hb : (rowOf .any l.toArray l[j]).need.testBit t with
    | false => rfl
    | true =>
      obtain ⟨e, he, hbd, hon⟩ := (hbit t).1 hb
      have := hall e he hbd
      rw [lst_getD, hon, if_pos (hlt t hb)] at this
      rw [this]; rfl
  · intro h
    refine ⟨l[j], by simp [hj], fun e he hbd => ?_⟩
    have hb := (hbit e.on).2 ⟨e, he, hbd, rfl⟩
    have h9 : ((rowOf .any l.toArray l[j]).need &&& mask).testBit e.on = true := by rw [h]; exact hb
    rw [Nat.testBit_and, hb, Bool.true_and] at h9
    rw [lst_getD, if_pos (hlt _ hb)]
    exact h9
theorem apart_of {x y : Oper} {ops : Array Oper} (h : apartR (rowOf .any ops x) (rowOf .any ops y) = true) : x.apart ops y = true := by
  unfold apartR rowOf dstOf at h
  unfold Oper.apart
  simp only [maskL_bit, Bool.and_eq_true, Bool.or_eq_true, Nat.beq_eq, Bool.not_eq_true'] at h
  obtain ⟨h1, h2⟩ := h
  simp only [Bool.and_eq_true]
  refine ⟨?_, ?_⟩
  · cases hx : x.dst with
    | none => rfl
    | some d =>
      rw [hx] at h1
      simp only [Nat.add_sub_cancel] at h1
      rcases h1 with h1 | ⟨h1, h3⟩
      · omega
      · simp only [Bool.and_eq_true, Bool.not_eq_true', bne_iff_ne]
        refine ⟨h1, fun e => ?_⟩
        rw [e] at h3
        simp at h3
  · cases hy : y.dst with
    | none => rfl
    | some d =>
      rw [hy] at h2
      simp only [Nat.add_sub_cancel] at h2
      rcases h2 with h2 | h2
      · omega
      · simpa using h2
theorem row_at (ht : tabOk .any l.toArray l.length l T = true) {j : Nat} {o : Oper} (ho : l.toArray[j]? = some o) : T[j]? = some (rowOf .any l.toArray o) := ((tabOk_get l T ht).2 j o (by simpa using ho)).1
theorem need_bit {ops : Array Oper} {o : Oper} {t : Nat} : (rowOf .any ops o).need.testBit t = true ↔ ∃ e ∈ o.after, Region.binds .any e = true ∧ e.on = t := by
  simp only [rowOf, maskL_bit, List.contains_iff_mem, List.mem_map, List.mem_filter, Array.mem_toList_iff]
  constructor
  · rintro ⟨e, ⟨h1, h2⟩, h3⟩; exact ⟨e, h1, h2, h3⟩
  · rintro ⟨e, h1, h2, h3⟩; exact ⟨e, ⟨h1, h2⟩, h3⟩
theorem free_of (ht : tabOk .any l.toArray l.length l T = true) {k : Nat} {o : Oper} (ho : l.toArray[k]? = some o) (h : freeR T mask k (rowOf .any l.toArray o) = true) : Region.free .any l.toArray (lst l.length mask) k = true := by
  unfold Region.free
  rw [ho]
  refine List.all_eq_true.2 fun j hj => ?_
  have hj' : j < l.length := by simpa using hj
  have hoj : l.toArray[j]? = some l[j] := by simp [hj']
  have h1 := allI_get T 0 h j _ (row_at ht hoj)
  rw [Nat.zero_add] at h1
  simp only [Bool.or_eq_true, Nat.beq_eq] at h1
  simp only [hoj, Bool.or_eq_true, beq_iff_eq, lst_getD, if_pos hj']
  rcases h1 with ((h1 | h1) | h1) | h1
  · exact .inl (.inl h1)
  · exact .inl (.inr h1)
  · obtain ⟨e, he, hb, hon⟩ := need_bit.1 h1
    refine .inr (.inl (Array.any_eq_true'.2 ⟨e, he, by simp [hb, hon]⟩))
  · exact .inr (.inr (apart_of h1))
theorem op_at (ht : tabOk .any l.toArray l.length l T = true) {k : Nat} {r : Row} (hr : T[k]? = some r) : ∃ o, l.toArray[k]? = some o ∧ r = rowOf .any l.toArray o := by
  obtain ⟨hlen, hget⟩ := tabOk_get l T ht
  have hj : k < l.length := by rw [← hlen]; exact (List.getElem?_eq_some_iff.1 hr).1
  refine ⟨l[k], by simp [hj], ?_⟩
  have := (hget k l[k] (by simp [hj])).1
  rw [hr, Option.some.injEq] at this
  exact this
theorem filter_one {p : Nat → Bool} {k : Nat} : ∀ n, k < n → (∀ j, j < n → (p j = true ↔ j = k)) → (List.range n).filter p = [k]
  | 0, h, _ => by omega
  | n + 1, h, hp => by
    rw [List.range_succ, List.filter_append]
    by_cases e : k = n
    · subst e
      have : (List.range k).filter p = [] := List.filter_eq_nil_iff.2 fun j hj => fun h9 => by
        have hj' : j < k := by simpa using hj
        have := (hp j (by omega)).1 h9
        omega
      rw [this]
      simp [(hp k (by omega)).2 rfl]
    · rw [filter_one n (by omega) fun j hj => hp j (by omega)]
      have : p n = false := by
        cases h9 : p n with
        | false => rfl
        | true => have := (hp n (by omega)).1 h9; omega
      simp [this]
theorem ready_one (ht : tabOk .any l.toArray l.length l T = true) {k : Nat} {rk : Row} (hk : T[k]? = some rk) (h1 : readyR mask k rk = true) (h2 : allI (fun j r => Nat.beq j k || !readyR mask j r) 0 T = true) : Region.ready .any l.toArray (lst l.length mask) = [k] := by
  obtain ⟨hlen, _⟩ := tabOk_get l T ht
  have hk' : k < l.length := by rw [← hlen]; exact (List.getElem?_eq_some_iff.1 hk).1
  have hm : ∀ j, j < l.length → (j ∈ Region.ready .any l.toArray (lst l.length mask) ↔ j = k) := by
    intro j hj
    have hrj : T[j]? = some T[j] := by simp [hlen, hj]
    rw [ready_iff ht hrj]
    constructor
    · intro h9
      have := allI_get T 0 h2 j _ hrj
      rw [Nat.zero_add] at this
      simp only [Bool.or_eq_true, Nat.beq_eq, Bool.not_eq_true'] at this
      rcases this with this | this
      · exact this
      · rw [this] at h9; cases h9
    · rintro rfl
      rw [hk] at hrj
      simp only [Option.some.injEq] at hrj
      rw [← hrj]
      exact h1
  unfold Region.ready at hm ⊢
  refine filter_one _ (by simpa using hk') fun j hj => ?_
  have := hm j (by simpa using hj)
  rw [List.mem_filter] at this
  simp only [List.mem_range] at this
  constructor
  · intro h9; exact this.1 ⟨hj, h9⟩
  · intro h9; exact (this.2 h9).2
theorem ready_none (ht : tabOk .any l.toArray l.length l T = true) (h2 : allI (fun j r => !readyR mask j r) 0 T = true) : Region.ready .any l.toArray (lst l.length mask) = [] := by
  obtain ⟨hlen, _⟩ := tabOk_get l T ht
  refine List.eq_nil_iff_forall_not_mem.2 fun j hj => ?_
  have hj' : j < l.length := by
    obtain ⟨_, o, ho, _⟩ := mem_ready.1 hj
    simpa using (Array.getElem?_eq_some_iff.1 ho).1
  have hrj : T[j]? = some T[j] := by simp [hlen, hj']
  have := allI_get T 0 h2 j _ hrj
  rw [Nat.zero_add, (ready_iff ht hrj).1 hj] at this
  cases this
theorem kind0 {o : Oper} (h : kindB o = 0) : wless o.op = true := by
  unfold kindB at h
  cases hw : wless o.op with
  | true => rfl
  | false =>
    rw [hw] at h
    cases hl : loadOp o.op <;> rw [hl] at h <;> cases h
theorem chkB_ok (ht : tabOk .any l.toArray l.length l T = true) : ∀ (B : List (Nat × Bool)) (mask : Nat), chkB T B mask = true → btGo .any l.toArray (BT.seq B) true B.length (lst l.length mask) = true
  | [], mask, h => by
    simp only [BT.seq, btGo, List.length_nil, beq_self_eq_true, Bool.true_and]
    rw [ready_none ht h]; rfl
  | (k, true) :: r, mask, h => by
    simp only [chkB, Bool.and_eq_true] at h
    obtain ⟨h1, h3⟩ := h
    cases hk : T[k]? with
    | none => rw [hk] at h1; cases h1
    | some rk =>
      rw [hk] at h1
      obtain ⟨o, ho, rfl⟩ := op_at ht hk
      simp only [Bool.and_eq_true, Nat.beq_eq] at h1
      obtain ⟨⟨h1, h4⟩, h5⟩ := h1
      simp only [BT.seq, btGo, List.length_cons, Bool.and_eq_true]
      refine ⟨⟨⟨by simpa using (ready_iff ht hk).2 h1, by rw [ho]; exact kind0 h4⟩, free_of ht ho h5⟩, ?_⟩
      rw [lst_set]
      exact chkB_ok ht r _ h3
  | (k, false) :: r, mask, h => by
    simp only [chkB, Bool.and_eq_true] at h
    obtain ⟨⟨h1, h2⟩, h3⟩ := h
    cases hk : T[k]? with
    | none => rw [hk] at h1; cases h1
    | some rk =>
      rw [hk] at h1
      obtain ⟨o, ho, rfl⟩ := op_at ht hk
      simp only [BT.seq, btGo, List.length_cons, Bool.and_eq_true, beq_iff_eq]
      refine ⟨⟨ready_one ht hk h1 h2, by rw [ho]; rfl⟩, ?_⟩
      rw [lst_set]
      exact chkB_ok ht r _ h3
theorem kind1 {o : Oper} (h : kindB o = 1) : loadOp o.op = true := by
  unfold kindB at h
  cases hw : wless o.op with
  | true => rw [hw] at h; cases h
  | false =>
    rw [hw] at h
    cases hl : loadOp o.op with
    | false => rw [hl] at h; cases h
    | true => rfl
theorem blkC_ok (ht : tabOk .any l.toArray l.length l T = true) (W : Nat → Bool) (Wm : Nat) (hW : ∀ j, Wm.testBit j = true → W j = true) {k : Nat} (h6 : blkC T k (blkR k 0 T 0) mask Wm = true) :
    ∃ Bl : Nat → Bool, (∀ j oj, l.toArray[j]? = some oj → Bl j = true → j ≠ k → ∃ e ∈ oj.after, Region.binds .any e = true ∧ Bl e.on = true) ∧ (∀ j, Bl j = true → (lst l.length mask).getD j false = false) ∧
      ∀ j, j < l.toArray.size → j = k ∨ (lst l.length mask).getD j true = true ∨ Bl j = true ∨ W j = true := by
  refine ⟨fun j => (blkR k 0 T 0).testBit j, ?_, ?_, ?_⟩
  · intro j oj hoj hb hne
    simp only [blkC, Bool.and_eq_true] at h6
    have h9 := allI_get T 0 h6.1 j _ (row_at ht hoj)
    rw [Nat.zero_add] at h9
    simp only [hb, Bool.and_eq_true, Bool.or_eq_true, Bool.not_true, Bool.false_eq_true, false_or, Nat.beq_eq, hne, Bool.not_eq_true'] at h9
    have hne0 : (rowOf .any l.toArray oj).need &&& blkR k 0 T 0 ≠ 0 := by
      intro h0
      have := h9.1.1
      rw [h0] at this
      simp at this
    obtain ⟨t, ht'⟩ := Nat.exists_testBit_of_ne_zero hne0
    rw [Nat.testBit_and, Bool.and_eq_true] at ht'
    obtain ⟨e, he, hbd, hon⟩ := need_bit.1 ht'.1
    exact ⟨e, he, hbd, by rw [hon]; exact ht'.2⟩
  · intro j hb
    replace hb : (blkR k 0 T 0).testBit j = true := hb
    simp only [blkC, Bool.and_eq_true, Nat.blt_eq] at h6
    obtain ⟨hlen, _⟩ := tabOk_get l T ht
    have hj : j < l.length := by
      rcases Nat.lt_or_ge j l.length with h | h
      · exact h
      · have := Nat.testBit_lt_two_pow (Nat.lt_of_lt_of_le h6.2 (Nat.pow_le_pow_right (by omega) (by omega : T.length ≤ j)))
        rw [this] at hb; cases hb
    have hrj : T[j]? = some T[j] := by simp [hlen, hj]
    have h9 := allI_get T 0 h6.1 j _ hrj
    rw [Nat.zero_add] at h9
    rw [lst_getD, if_pos hj]
    simp only [hb, Bool.and_eq_true, Bool.or_eq_true, Bool.not_true, Bool.false_eq_true, false_or, Bool.not_eq_true'] at h9
    exact h9.1.2
  · intro j hj
    have hj' : j < l.length := by simpa using hj
    simp only [blkC, Bool.and_eq_true] at h6
    obtain ⟨hlen, _⟩ := tabOk_get l T ht
    have hrj : T[j]? = some T[j] := by simp [hlen, hj']
    have h9 := allI_get T 0 h6.1 j _ hrj
    rw [Nat.zero_add] at h9
    simp only [Bool.and_eq_true, Bool.or_eq_true, Nat.beq_eq] at h9
    rw [lst_getD, if_pos hj']
    rcases h9.2 with ((h9 | h9) | h9) | h9
    · exact .inl h9
    · exact .inr (.inl h9)
    · exact .inr (.inr (.inl h9))
    · exact .inr (.inr (.inr (hW j h9)))
theorem chkX_ok (ht : tabOk .any l.toArray l.length l T = true) (W : Nat → Bool) (Wm : Nat) (hW : ∀ j, Wm.testBit j = true → W j = true) (bt : BT) (m : Nat) (f : Nat → Bool) (hf : ∀ mask, f mask = true → btGo .any l.toArray bt true m (lst l.length mask) = true) : ∀ (X : List Nat) (mask : Nat), chkX T Wm X mask f = true → PreP .any l.toArray bt m W X (lst l.length mask)
  | [], mask, h => hf mask h
  | k :: r, mask, h => by
    simp only [chkX, Bool.and_eq_true] at h
    obtain ⟨h1, h3⟩ := h
    cases hk : T[k]? with
    | none => rw [hk] at h1; cases h1
    | some rk =>
      rw [hk] at h1
      obtain ⟨o, ho, rfl⟩ := op_at ht hk
      simp only [Bool.and_eq_true, Bool.or_eq_true, Nat.beq_eq] at h1
      obtain ⟨⟨⟨h1, h5⟩, h4⟩, h6⟩ := h1
      refine ⟨(ready_iff ht hk).2 h1, free_of ht ho h5, hW k h4, ⟨o, ho, h6.imp kind0 fun h9 => ⟨kind1 h9.1, blkC_ok ht W Wm hW h9.2⟩⟩, ?_⟩
      rw [lst_set]
      exact chkX_ok ht W Wm hW bt m f hf r _ h3
end
section
variable {P : Program} {F : Frm} {l : List Oper} {T : List Row} {Q : Exit → Act → World → Prop} {k : St → Prop} {R0 : Nat → Prop} {w0 : Org}
theorem Sat.region_rows {K : Exit → St → Prop} {st : St} {id : Nat} {l : List Oper} (T : List Row) (X : List Nat) (B : List (Nat × Bool)) (ws : List Nat) (hm : P.follows .mixedOrders = true) (hB : keepC l T X B ws = true) (hpan : ∀ c st, ¬ K (.panic c) st)
    (h : ∀ k : St → Prop, (∀ st', K .normal st' → k st') → WO P F (l.map (·.dst)) (X.map fun i => l.getD i default) st fun st2 => WBT P F (l.map (·.dst)) l st.own (keepW X ws) true (BT.seq B) st2 k) : Sat P F (.region id l.toArray true) st K := by
  rintro R0 w0 a w ⟨ob, R, hr⟩
  simp only [keepC, chkR, Bool.and_eq_true, Nat.beq_eq] at hB
  obtain ⟨⟨⟨hsel, ht⟩, hc⟩, hlen⟩ := hB
  have hdrew : Grown w { w with drawn := w.drawn + 1 } := ⟨rfl, rfl, rfl, Nat.le_refl _, fun _ _ _ => rfl⟩
  refine wp_region_any hm ?_
  have hpan' : ∀ c a w, ¬ (fun e a' w' => ∃ st', K e st' ∧ Rel F R0 w0 st' a' w') (.panic c) a w := fun c a w ⟨st', hk, _⟩ => hpan c st' hk
  have := keep_sound (P := P) (F := F) (R0 := R0) (w0 := w0) (Q := fun e a' w' => ∃ st', K e st' ∧ Rel F R0 w0 st' a' w') (k := K .normal) hpan' hsel X ws (BT.seq B) B.length (lst l.length 0) st a { w with drawn := w.drawn + 1 }
    (chkX_ok ht (keepW X ws) _ (fun j hj => by rw [Nat.testBit_or, maskL_bit, maskL_bit] at hj; exact hj) (BT.seq B) B.length _ (fun mask hb => chkB_ok ht B mask hb) X 0 hc)
    (by simpa using h _ fun _ h => h) ⟨ob, R, hr.grown hdrew⟩ (fun st' a' w' hk hr' => ⟨st', hk, hr'⟩)
  rw [hlen, lst_zero] at this
  simpa using this
theorem Sat.know_nil {c : Code} {K : Exit → St → Prop} {n : Nat} {env : List (Nat × SV)} {own : List Own} (t : Nat) {a : Option Addr} {len cap sz : Nat} {rd : Nat → Nat → SV} (hl : look env t = some (.sl a len cap sz rd)) (h : (a = none → len = 0) → Sat P F c ⟨n, env, own⟩ K) : Sat P F c ⟨n, env, own⟩ K := by
  rintro R0 w0 ac w ⟨ob, R, hr⟩
  refine h ?_ R0 w0 ac w ⟨ob, R, hr⟩
  rintro rfl
  rcases (hr.env t _ hl).2.2.2 with h | ⟨blk, off, h, _⟩
  · exact h
  · cases h
theorem Sat.know_row {c : Code} {K : Exit → St → Prop} {n : Nat} {env : List (Nat × SV)} {own : List Own} (id : Nat) {a : Option Addr} {e len cap sz : Nat} {rd : Nat → Nat → SV} (hl : own[id]? = some (.row a e len cap sz rd)) (h : len ≤ cap → Sat P F c ⟨n, env, own⟩ K) : Sat P F c ⟨n, env, own⟩ K := by
  rintro R0 w0 ac w ⟨ob, R, hr⟩
  refine h ?_ R0 w0 ac w ⟨ob, R, hr⟩
  rcases (hr.own _ _ hl).1.2 with ⟨hv, h0⟩ | ⟨g, cap', cur, hv, _, _, hn, _⟩
  · simp only [Value.slice.injEq] at hv; omega
  · simp only [Value.slice.injEq] at hv; omega
theorem Sat.adoptBox {c : Code} {K : Exit → St → Prop} {n : Nat} {env : List (Nat × SV)} {own : List Own} (id j : Nat) (e sz : Nat) (rd : Nat → Nat → SV) {blk ty sz0 : Nat} {cs : List SV} {rd0 : Nat → Nat → SV} (hl : own[id]? = some (.box blk ty cs)) (hj : cs[j]? = some (.sl none 0 0 sz0 rd0))
    (h : Sat P F c ⟨n, env, own.set id (.box blk ty (cs.set j (.os own.length none 0 0))) ++ [.row none e 0 0 sz rd]⟩ K) : Sat P F c ⟨n, env, own⟩ K := by
  rintro R0 w0 a w ⟨ob, R, hr⟩
  refine h R0 w0 a w ⟨ob, R, ?_⟩
  have hbox := hr.own id _ hl
  have hidl : id < own.length := (List.getElem?_eq_some_iff.1 hl).1
  have hjl : j < cs.length := (List.getElem?_eq_some_iff.1 hj).1
  have hden : (cs.set j (.os own.length none 0 0)).map SV.den = cs.map SV.den := by
    apply List.ext_getElem?
    intro q
    rw [List.getElem?_map, List.getElem?_map, List.getElem?_set]
    by_cases e : j = q
    · subst e
      rw [if_pos rfl, if_pos hjl, hj]; rfl
    · rw [if_neg e]
  have hok : (Own.box blk ty (cs.set j (.os own.length none 0 0))).ok R ob w := by
    refine ⟨hbox.1, hbox.2.1, by rw [hden]; exact hbox.2.2.1, fun x hx => ?_⟩
    rcases List.mem_or_eq_of_mem_set hx with hx | rfl
    · exact hbox.2.2.2 x hx
    · exact ⟨rfl, trivial⟩
  have h1 : RelR F R0 w0 ob R ⟨n, env, own.set id (.box blk ty (cs.set j (.os own.length none 0 0)))⟩ a w := by
    refine ⟨hr.defers, hr.env, hr.size, ?_, ?_, hr.evo, hr.inv, hr.obM, ?_, hr.obw, hr.rr, hr.r0⟩
    · intro i x hx
      rw [List.getElem?_set] at hx
      split at hx
      · simp only [hidl, if_true, Option.some.injEq] at hx
        subst hx
        exact hok
      · exact hr.own i x hx
    · intro i k x y hik hx hy b hb1 hb2
      rw [List.getElem?_set] at hx hy
      split at hx <;> split at hy
      · omega
      · rename_i e1 _
        subst e1
        simp only [hidl, if_true, Option.some.injEq] at hx
        subst hx
        exact hr.dist id k _ y hik hl hy b hb1 hb2
      · rename_i _ e1
        subst e1
        simp only [hidl, if_true, Option.some.injEq] at hy
        subst hy
        exact hr.dist i id x _ hik hx hl b hb1 hb2
      · exact hr.dist i k x y hik hx hy b hb1 hb2
    · exact gb_set (m := w0.w.heap.size) (Nat.le_refl _) hr.gb hl fun b hb => .inl hb
  exact h1.newRow (o := .row none e 0 0 sz rd) (w' := w) (grown_refl w none) (fun b hb => by cases hb) ⟨by simpa [cellsOf] using World.ownsRow_nil w _ e sz, (fun g hg => by cases hg), (fun i j hi => absurd hi (Nat.not_lt_zero _))⟩
theorem sim_nil (sz sz' : Nat) (rd rd' : Nat → Nat → SV) : sim (.sl none 0 0 sz rd) (.sl none 0 0 sz' rd') := ⟨rfl, fun R w h => ⟨h.1, h.2.1, .inl rfl⟩⟩
theorem sim_tup2 {s s' t t' : SV} (h0 : sim s s') (h1 : sim t t') : sim (tupL [s, t]) (tupL [s', t']) := by
  refine ⟨?_, fun R w h j hj => ?_⟩
  · simp only [tupL, SV.den, List.length_cons, List.length_nil]
    have : (List.range (0 + 1 + 1)) = [0, 1] := rfl
    rw [this]
    simp only [List.map_cons, List.map_nil, List.getD_cons_zero, List.getD_cons_succ, h0.1, h1.1]
  · have hj' : j < 2 := hj
    rcases (show j = 0 ∨ j = 1 by omega) with rfl | rfl
    · exact h0.2 R w (h 0 (by simp))
    · exact h1.2 R w (h 1 (by simp))
theorem sim_bools (n : Nat) (l l' : List SV) (hl : l.length = n) (h : l.map roB = l') : sim (.agg n fun j => l.getD j default) (.agg n fun j => l'.getD j default) := by
  subst h
  have hg : ∀ j, j < n → (l.map roB).getD j default = roB (l.getD j default) := fun j hj => getD_map_lt (by omega)
  refine ⟨?_, fun R w h j hj => ?_⟩
  · simp only [SV.den]
    congr 2
    apply List.map_congr_left
    intro j hj
    rw [hg j (by simpa using hj), roB_den]
  · have this : (l.getD j default).ok R w := h j hj
    show (((l.map roB)).getD j default).ok R w
    rw [hg j hj]
    generalize l.getD j default = s at this ⊢
    cases s <;> first | exact this | trivial
theorem sim_agg2 {f g : Nat → SV} (h0 : sim (f 0) (g 0)) (h1 : sim (f 1) (g 1)) : sim (.agg 2 f) (.agg 2 g) := by
  refine ⟨?_, fun R w h j hj => ?_⟩
  · simp only [SV.den]
    have : (List.range 2) = [0, 1] := rfl
    rw [this]
    simp only [List.map_cons, List.map_nil, h0.1, h1.1]
  · rcases (show j = 0 ∨ j = 1 by omega) with rfl | rfl
    · exact h0.2 R w (h 0 (by omega))
    · exact h1.2 R w (h 1 (by omega))
theorem ContractN.toC {f : FuncId} {args : List SV} {post : Own → Prop} (h : ContractN F P f args post) : Contract F P f args (fun r => ∃ a ty len cap sz rd, r = .sl a len cap sz rd ∧ post (.row a ty len cap sz rd)) := by
  refine ⟨h.enters, fun R w hinv hargs hR => (h.calls R w hinv hargs hR).mono ?_⟩
  rintro e w' ⟨a, ty, len, cap, sz, rd, R', rfl, hpost, hRR, hR', ho, hevo, hinv'⟩
  refine ⟨.sl a len cap sz rd, rfl, ⟨a, ty, len, cap, sz, rd, rfl, hpost⟩, ?_, hevo, hinv'⟩
  refine SV.ok_mono (R := fun b => R' b ∨ (Own.row a ty len cap sz rd).blk = some b) (fun b hb => ?_) (fun _ _ => rfl) _ (row_sl ho (fun _ h => .inl h) fun b hb => .inr hb)
  rcases hb with hb | hb
  · exact hR' b hb
  · exact .inr ⟨(Own.blk_lt ho hb).1, (Own.blk_lt ho hb).2.1⟩
theorem Contract.same {f : FuncId} {args : List SV} {post post' : SV → Prop} (h : Contract F P f args post) (hp : ∀ r, post r → ∃ r', sim r r' ∧ post' r') : Contract F P f args post' := by
  refine ⟨h.enters, fun R w hinv hargs hR => (h.calls R w hinv hargs hR).mono ?_⟩
  rintro e w' ⟨r, rfl, hpost, hok, hevo, hinv'⟩
  obtain ⟨r', hs, hp'⟩ := hp r hpost
  exact ⟨r', by rw [hs.1], hp', hs.2 _ _ hok, hevo, hinv'⟩
end
end Eng
end Go.Proofs.YtgdbcpljdibliaaGreatDoor

/- The evaluator, part V: a struct that holds rows of the call's own is handed to a function that only reads them. -/
set_option linter.unusedSimpArgs false
set_option linter.unusedVariables false
namespace Go.Proofs.YtgdbcpljdibliaaGreatDoor
namespace Eng
section
variable {P : Program} {F : Frm}
def noRow (own : List Own) : SV → Bool
  | .os id _ _ _ => match own[id]? with | some (.row _ _ _ _ _ _) => false | _ => true
  | _ => true
def leafOk (own : List Own) : SV → Bool
  | .agg n rd => (List.range n).all fun j => noRow own (rd j)
  | s => noRow own s
def leafS (own : List Own) : SV → SV
  | .agg n rd => .agg n fun j => roSl own (rd j)
  | s => roArgS own s
theorem roSl_frz {R0 R : Nat → Prop} {w0 : Org} {w : World} {ob : Nat} {st : St} {a : Act} (hr : RelR F R0 w0 ob R st a w) {s : SV} (hn : noRow st.own s = true) (hs : s.ok R w) : (roSl st.own s).den = s.den ∧ (roSl st.own s).ok R w := by
  refine ⟨(roSl_ok hr hs).1, ?_⟩
  unfold roSl
  cases hany : asAny st.own s with
  | none => exact hs
  | some p =>
    obtain ⟨a', len, cap, sz, rd⟩ := p
    have rd_ok : ∀ {s : SV}, asRead st.own s = some (a', len, cap, sz, rd) → s.ok R w → (SV.sl a' len cap sz rd).ok R w := fun h1 h2 => (asRead_ok (st := st) h1 hr.own h2).2
    unfold asAny at hany
    split at hany
    · rename_i id a1 len1 cap1
      split at hany
      · rename_i a2 e2 len2 cap2 sz2 rd2 ho2
        simp only [noRow, ho2] at hn
        cases hn
      · exact rd_ok hany hs
    · exact rd_ok hany hs
theorem leafS_ok {R0 R : Nat → Prop} {w0 : Org} {w : World} {ob : Nat} {st : St} {a : Act} (hr : RelR F R0 w0 ob R st a w) {s : SV} (hn : leafOk st.own s = true) (hs : s.ok R w) : (leafS st.own s).den = s.den ∧ (leafS st.own s).ok R w := by
  have top : ∀ s : SV, noRow st.own s = true → s.ok R w → (roArgS st.own s).den = s.den ∧ (roArgS st.own s).ok R w := fun s hn hs => by
    have := roSl_frz hr hn hs
    cases s <;> first | exact ⟨rfl, trivial⟩ | exact this
  cases s with
  | agg n rd =>
    have hn' : ∀ j, j < n → noRow st.own (rd j) = true := fun j hj => List.all_eq_true.1 hn j (List.mem_range.2 hj)
    refine ⟨?_, fun j hj => (roSl_frz hr (hn' j hj) (hs j hj)).2⟩
    simp only [leafS, SV.den]
    congr 2
    apply List.map_congr_left
    intro j hj
    exact (roSl_frz hr (hn' j (List.mem_range.1 hj)) (hs j (List.mem_range.1 hj))).1
  | v x => exact top (.v x) hn hs
  | i k m => exact top (.i k m) hn hs
  | b x => exact top (.b x) hn hs
  | tt => exact top .tt hn hs
  | ff => exact top .ff hn hs
  | sl a l c z rd => exact top (.sl a l c z rd) hn hs
  | el a m rd => exact top (.el a m rd) hn hs
  | os id a l c => exact top (.os id a l c) hn hs
  | mp id b => exact top (.mp id b) hn hs
  | oe id b o x j => exact top (.oe id b o x j) hn hs
  | op id b o => exact top (.op id b o) hn hs
  | tup m rd => exact top (.tup m rd) hn hs
  | ow id a z o l c => exact top (.ow id a z o l c) hn hs
  | fn f m rd => exact top (.fn f m rd) hn hs
theorem callK_leaf {st : St} {dst : Option Tmp} {k : St → Prop} {f : FuncId} {args : List SV} {post : SV → Prop} (ids : List SV) {own' : List Own} (hown : frz st.own ids = own') (hl : args.all (leafOk own') = true) (h : Contract F P f (args.map (leafS own')) post)
    (hk : ∀ r, post r → k (St.put { st with own := own' } dst r)) : CallK P F f args st dst k := by
  subst hown
  intro R0 w0 ob R a w hr hargs
  refine ⟨h.enters, ?_⟩
  obtain ⟨R1, hm1, hr1⟩ := hr.frz ids
  have hargs1 : ∀ s ∈ args, s.ok R1 w := fun s hs => SV.ok_mono hm1 (fun _ _ => rfl) s (hargs s hs)
  have hall : ∀ s ∈ args, leafOk (frz st.own ids) s = true := List.all_eq_true.1 hl
  have hden : (args.map (leafS (Eng.frz st.own ids))).map SV.den = args.map SV.den := by
    rw [List.map_map]
    exact List.map_congr_left fun s hs => (leafS_ok hr1 (hall s hs) (hargs1 s hs)).1
  have hok : ∀ s ∈ args.map (leafS (Eng.frz st.own ids)), s.ok R1 w := by
    intro s' hs'
    obtain ⟨s, hs, rfl⟩ := List.mem_map.1 hs'
    exact (leafS_ok hr1 (hall s hs) (hargs1 s hs)).2
  have hc := h.calls R1 w hr1.inv hok (fun b hb => ⟨(hr1.rr b hb).1, (hr1.rr b hb).2.1⟩)
  rw [hden] at hc
  refine hc.mono ?_
  rintro e w' ⟨r, rfl, hpost, hrok, hevo, hinv⟩
  exact ⟨r, _, _, rfl, hk r hpost, hrok, hr1.called hevo hinv, rfl⟩
theorem wcall_leaf {ds : List (Option Tmp)} {rest : List Oper} {dst : Option Tmp} {n : Nat} {env : List (Nat × SV)} {own own' : List Own} {k : St → Prop} {f : FuncId} {args args' : List SV} {post : SV → Prop} (ids : List SV) (hown : frz own ids = own') (hl : args.all (leafOk own') = true)
    (h : Contract F P f args' post) (ha : args.map (leafS own') = args') (hk : ∀ r, post r → WO P F ds rest (St.put ⟨n, env, own'⟩ dst r) k) : WCall P F ds rest dst ⟨n, env, own⟩ f (some args) k := by
  unfold WCall
  subst ha
  exact callK_leaf (st := ⟨n, env, own⟩) (k := fun st' => WO P F ds rest st' k) ids hown hl h hk
end
end Eng
end Go.Proofs.YtgdbcpljdibliaaGreatDoor

/- Plain laws of the reference's arithmetic with limbs: sum, quotient, greatest common divisor. No program is in sight. -/
set_option linter.unusedSimpArgs false
namespace Go.Proofs.YtgdbcpljdibliaaGreatDoor.Lmb
theorem norm_of_ge {xs : List Int} (h : Limbs xs) (hv : xs ≠ [] → pw (xs.length - 1) ≤ val xs) : Norm xs := by
  intro x hx hz
  subst hz
  have hne : xs ≠ [] := by rintro rfl; simp at hx
  have hl := hv hne
  have e : xs = xs.dropLast ++ [0] := by
    have h1 := List.dropLast_concat_getLast hne
    rw [List.getLast?_eq_some_getLast hne, Option.some.injEq] at hx
    rw [hx] at h1
    exact h1.symm
  have hd : Limbs xs.dropLast := fun y hy => h y (List.dropLast_subset _ hy)
  have h2 := val_lt hd
  rw [e, val_append] at hl
  simp only [val_cons, val_nil, List.length_append, List.length_dropLast, List.length_cons, List.length_nil] at hl h2
  have h3 : xs.length - 1 + (0 + 1) - 1 = xs.length - 1 := by omega
  rw [h3] at hl
  simp at hl
  omega
structure PlusInv (xs ys os : List Int) (i : Nat) (c : Int) : Prop where
  len : os.length = i
  limbs : Limbs os
  c0 : 0 ≤ c
  c1 : c ≤ 1
  eq : val os + pw i * c = val (xs.take i) + val (ys.take i)
  tight : i ≤ max xs.length ys.length ∨ (i = max xs.length ys.length + 1 ∧ c = 0 ∧ pw (i - 1) ≤ val os)
theorem PlusInv.start (xs ys : List Int) : PlusInv xs ys [] 0 0 := ⟨rfl, limbs_nil, by omega, by omega, by simp [val_nil], .inl (Nat.zero_le _)⟩
theorem PlusInv.step {xs ys os : List Int} {i : Nat} {c : Int} (h : PlusInv xs ys os i c) (hx : Limbs xs) (hy : Limbs ys) (hg : i < xs.length ∨ i < ys.length ∨ 0 < c) :
    PlusInv xs ys (os ++ [(xs.getD i 0 + ys.getD i 0 + c) % 1073741824]) (i + 1) ((xs.getD i 0 + ys.getD i 0 + c) / 1073741824) := by
  have bx := limbs_getD hx i
  have bY := limbs_getD hy i
  have c0 := h.c0
  have c1 := h.c1
  have e1 := val_take_next xs i
  have e2 := val_take_next ys i
  have hl := h.len
  generalize ht : xs.getD i 0 + ys.getD i 0 + c = t
  have hd := Int.emod_add_mul_ediv t 1073741824
  refine ⟨by simp [hl], ?_, by omega, by omega, ?_, ?_⟩
  · rw [limbs_append]
    refine ⟨h.limbs, ?_⟩
    rw [limbs_cons]
    exact ⟨by omega, limbs_nil⟩
  · rw [val_append, e1, e2, hl, pw_succ]
    simp only [val_cons, val_nil, Int.mul_zero, Int.add_zero]
    have heq := h.eq
    have k1 : pw i * (t % 1073741824) + 1073741824 * pw i * (t / 1073741824) = pw i * t := by
      rw [Int.mul_comm 1073741824, Int.mul_assoc, ← Int.mul_add, hd]
    have k2 : pw i * t = pw i * xs.getD i 0 + pw i * ys.getD i 0 + pw i * c := by rw [← ht, Int.mul_add, Int.mul_add]
    omega
  · rcases h.tight with h1 | ⟨h1, h2, _⟩
    · by_cases hm : i < max xs.length ys.length
      · exact .inl (by omega)
      · refine .inr ⟨by omega, ?_, ?_⟩
        · have z1 : xs.getD i 0 = 0 := by simp [List.getD, show xs.length ≤ i by omega]
          have z2 : ys.getD i 0 = 0 := by simp [List.getD, show ys.length ≤ i by omega]
          omega
        · have z1 : xs.getD i 0 = 0 := by simp [List.getD, show xs.length ≤ i by omega]
          have z2 : ys.getD i 0 = 0 := by simp [List.getD, show ys.length ≤ i by omega]
          have hc : c = 1 := by omega
          have htt : t = 1 := by omega
          subst htt
          rw [val_append, hl]
          simp only [val_cons, val_nil, Int.mul_zero, Int.add_zero, Nat.add_sub_cancel]
          have := val_nonneg h.limbs
          have e3 : (1 : Int) % 1073741824 = 1 := by decide
          rw [e3, Int.mul_one]
          omega
    · rcases hg with hg | hg | hg <;> omega
theorem PlusInv.done {xs ys os : List Int} {i m n : Nat} {c : Int} (h : PlusInv xs ys os i c) (hx : Dig xs m) (hy : Dig ys n) (h1 : xs.length ≤ i) (h2 : ys.length ≤ i) (hc : c ≤ 0) : Dig os (m + n) := by
  have c0 := h.c0
  have hc : c = 0 := by omega
  subst hc
  have heq := h.eq
  rw [val_take_all _ _ h1, val_take_all _ _ h2, hx.val, hy.val, Int.mul_zero, Int.add_zero] at heq
  refine ⟨h.limbs, norm_of_ge h.limbs fun hne => ?_, by omega⟩
  have hlen := h.len
  have h0 : 0 < os.length := List.length_pos_iff.2 hne
  rcases h.tight with ht | ⟨_, _, ht⟩
  · have hi : i = max xs.length ys.length := by omega
    rw [heq, hlen]
    rcases Nat.le_total xs.length ys.length with hle | hle
    · have e : i = ys.length := by omega
      have : ¬ (n : Int) < pw (ys.length - 1) := fun hlt => by have := (hy.len_le (ys.length - 1)).2 hlt; omega
      rw [e]; omega
    · have e : i = xs.length := by omega
      have : ¬ (m : Int) < pw (xs.length - 1) := fun hlt => by have := (hx.len_le (xs.length - 1)).2 hlt; omega
      rw [e]; omega
  · rwa [hlen]
structure SplitInv (xs qs : List Int) (j : Nat) (n r : Nat) : Prop where
  len : qs.length = xs.length
  limbs : Limbs qs
  eq : val (xs.drop j) = val (qs.drop j) * n + r
  lt : r < n
theorem SplitInv.start (xs : List Int) {n : Nat} (hn : 0 < n) : SplitInv xs (List.replicate xs.length 0) xs.length n 0 :=
  ⟨by simp, limbs_replicate _, by simp [val_nil], hn⟩
theorem SplitInv.step {xs qs : List Int} {j n r : Nat} (h : SplitInv xs qs (j + 1) n r) (hx : Limbs xs) (hj : j < xs.length) {d r' : Nat} (hd : (xs.getD j 0).toNat + 1073741824 * r = d * n + r') (hr : r' < n) :
    SplitInv xs (qs.set j d) j n r' ∧ d < 1073741824 := by
  have bx := limbs_getD hx j
  have hl := h.len
  have hlt := h.lt
  have hdl : d < 1073741824 := by
    have h1 : d * n < 1073741824 * n := by
      have : 1073741824 * r + 1073741824 ≤ 1073741824 * n := by
        have := Nat.mul_le_mul_left 1073741824 (Nat.succ_le_of_lt hlt)
        omega
      omega
    exact Nat.lt_of_mul_lt_mul_right h1
  refine ⟨⟨by simpa using hl, limbs_set h.limbs _ _ (by omega), ?_, hr⟩, hdl⟩
  have hj2 : j < qs.length := by omega
  rw [val_drop xs j hj, h.eq, val_drop (qs.set j d) j (by simpa using hj2)]
  have e1 : (qs.set j (d : Int)).getD j 0 = d := by simp [List.getD, hj2]
  have e2 : (qs.set j (d : Int)).drop (j + 1) = qs.drop (j + 1) := List.drop_set_of_lt (by omega)
  rw [e1, e2, Int.add_mul]
  have e3 : xs.getD j 0 + 1073741824 * (r : Int) = (d : Int) * n + r' := by
    have := congrArg (Nat.cast (R := Int)) hd
    simp only [Int.natCast_add, Int.natCast_mul] at this
    omega
  rw [Int.mul_add, Int.mul_assoc]
  omega
theorem SplitInv.done {xs qs : List Int} {m n r : Nat} (h : SplitInv xs qs 0 n r) (hx : val xs = m) : Dig (trim qs) (m / n) ∧ r = m % n := by
  have h1 := h.eq
  have hq := val_nonneg h.limbs
  rw [List.drop_zero, List.drop_zero, hx] at h1
  obtain ⟨q, hq'⟩ := Int.eq_ofNat_of_zero_le hq
  rw [hq'] at h1
  have h2 : m = q * n + r := by
    have : (m : Int) = ((q * n + r : Nat) : Int) := by rw [h1]; simp
    omega
  have hn : 0 < n := by have := h.lt; omega
  have e1 : m / n = q := by
    rw [h2, Nat.mul_comm, Nat.mul_add_div hn, Nat.div_eq_of_lt h.lt, Nat.add_zero]
  have e2 : m % n = r := by
    rw [h2, Nat.mul_comm, Nat.mul_add_mod, Nat.mod_eq_of_lt h.lt]
  refine ⟨?_, e2.symm⟩
  have := dig_trim h.limbs
  rw [hq'] at this
  rw [e1]
  simpa using this
/-! halving, for the greatest common divisor -/
theorem gcd_half {a b : Nat} (ho : Nat.gcd a b % 2 = 1) (he : a % 2 = 0) : Nat.gcd (a / 2) b = Nat.gcd a b := by
  obtain ⟨c, rfl⟩ : ∃ c, a = 2 * c := ⟨a / 2, by omega⟩
  have e : 2 * c / 2 = c := by omega
  rw [e]
  refine Nat.dvd_antisymm ?_ ?_
  · exact Nat.dvd_gcd (Nat.dvd_trans (Nat.gcd_dvd_left c b) (Nat.dvd_mul_left c 2)) (Nat.gcd_dvd_right c b)
  · refine Nat.dvd_gcd ?_ (Nat.gcd_dvd_right _ _)
    have h1 : Nat.gcd (2 * c) b ∣ 2 * c := Nat.gcd_dvd_left _ _
    have h2 : Nat.Coprime (Nat.gcd (2 * c) b) 2 := by
      unfold Nat.Coprime
      have h3 : Nat.gcd (Nat.gcd (2 * c) b) 2 ∣ 2 := Nat.gcd_dvd_right _ _
      have h4 : Nat.gcd (Nat.gcd (2 * c) b) 2 ∣ Nat.gcd (2 * c) b := Nat.gcd_dvd_left _ _
      have h5 : Nat.gcd (Nat.gcd (2 * c) b) 2 ≤ 2 := Nat.le_of_dvd (by decide) h3
      generalize Nat.gcd (Nat.gcd (2 * c) b) 2 = x at h3 h4 h5 ⊢
      generalize Nat.gcd (2 * c) b = g at ho h4
      obtain ⟨y, rfl⟩ := h4
      rcases (show x = 0 ∨ x = 1 ∨ x = 2 by omega) with rfl | rfl | rfl
      · simp at ho
      · rfl
      · omega
    exact Nat.Coprime.dvd_of_dvd_mul_left h2 h1
theorem gcd_half' {a b : Nat} (ho : Nat.gcd a b % 2 = 1) (he : b % 2 = 0) : Nat.gcd a (b / 2) = Nat.gcd a b := by
  rw [Nat.gcd_comm a, Nat.gcd_comm a]
  exact gcd_half (by rwa [Nat.gcd_comm]) he
theorem gcd_sub {a b : Nat} (h : b ≤ a) : Nat.gcd (a - b) b = Nat.gcd a b := by
  obtain ⟨c, rfl⟩ := Nat.exists_eq_add_of_le h
  rw [Nat.add_sub_cancel_left, Nat.gcd_comm, Nat.gcd_comm (b + c)]
  simp
theorem gcd_twos {a b : Nat} (ha : a % 2 = 0) (hb : b % 2 = 0) : 2 * Nat.gcd (a / 2) (b / 2) = Nat.gcd a b := by
  obtain ⟨c, rfl⟩ : ∃ c, a = 2 * c := ⟨a / 2, by omega⟩
  obtain ⟨d, rfl⟩ : ∃ d, b = 2 * d := ⟨b / 2, by omega⟩
  rw [show 2 * c / 2 = c by omega, show 2 * d / 2 = d by omega, Nat.gcd_mul_left]
theorem gcd_odd {a b : Nat} (h : ¬ (a % 2 = 0 ∧ b % 2 = 0)) : Nat.gcd a b % 2 = 1 := by
  rcases Nat.mod_two_eq_zero_or_one (Nat.gcd a b) with h0 | h0
  · exfalso
    have h2 : 2 ∣ Nat.gcd a b := Nat.dvd_of_mod_eq_zero h0
    exact h ⟨Nat.mod_eq_zero_of_dvd (Nat.dvd_trans h2 (Nat.gcd_dvd_left a b)), Nat.mod_eq_zero_of_dvd (Nat.dvd_trans h2 (Nat.gcd_dvd_right a b))⟩
  · exact h0
theorem even_limb {xs : List Int} {n : Nat} (h : Dig xs n) : xs.getD 0 0 % 2 = ((n % 2 : Nat) : Int) := by
  have hv := h.val
  cases xs with
  | nil =>
    rw [val_nil] at hv
    obtain rfl : n = 0 := by omega
    rfl
  | cons x r =>
    rw [val_cons] at hv
    simp only [List.getD_cons_zero]
    omega
/-! difference -/
def dI (x : Int) : Int := if x < 0 then x + 1073741824 else x
def cI (x : Int) : Int := if x < 0 then 1 else 0
structure LessInv (xs ys os : List Int) (i : Nat) (c : Int) : Prop where
  len : os.length = i
  limbs : Limbs os
  c0 : 0 ≤ c
  c1 : c ≤ 1
  eq : val os - pw i * c = val (xs.take i) - val (ys.take i)
theorem LessInv.start (xs ys : List Int) : LessInv xs ys [] 0 0 := ⟨rfl, limbs_nil, by omega, by omega, by simp [val_nil]⟩
theorem LessInv.step {xs ys os : List Int} {i : Nat} {c : Int} (h : LessInv xs ys os i c) (hx : Limbs xs) (hy : Limbs ys) :
    LessInv xs ys (os ++ [dI (xs.getD i 0 - ys.getD i 0 - c)]) (i + 1) (cI (xs.getD i 0 - ys.getD i 0 - c)) := by
  have bx := limbs_getD hx i
  have bY := limbs_getD hy i
  have c0 := h.c0
  have c1 := h.c1
  have e1 := val_take_next xs i
  have e2 := val_take_next ys i
  have hl := h.len
  generalize ht : xs.getD i 0 - ys.getD i 0 - c = t
  have hd : dI t - 1073741824 * cI t = t := by unfold dI cI; split <;> omega
  have hd0 : 0 ≤ dI t ∧ dI t < 1073741824 := by unfold dI; split <;> omega
  have hc : 0 ≤ cI t ∧ cI t ≤ 1 := by unfold cI; split <;> omega
  refine ⟨by simp [hl], ?_, hc.1, hc.2, ?_⟩
  · rw [limbs_append]
    refine ⟨h.limbs, ?_⟩
    rw [limbs_cons]
    exact ⟨hd0, limbs_nil⟩
  · rw [val_append, e1, e2, hl, pw_succ]
    simp only [val_cons, val_nil, Int.mul_zero, Int.add_zero]
    have heq := h.eq
    have k1 : pw i * dI t - 1073741824 * pw i * cI t = pw i * t := by
      rw [Int.mul_comm 1073741824, Int.mul_assoc, ← Int.mul_sub, hd]
    have k2 : pw i * t = pw i * xs.getD i 0 - pw i * ys.getD i 0 - pw i * c := by rw [← ht, Int.mul_sub, Int.mul_sub]
    omega
theorem LessInv.done {xs ys os : List Int} {m n : Nat} {c : Int} (h : LessInv xs ys os xs.length c) (hx : Dig xs m) (hy : Dig ys n) (hle : n ≤ m) : (val os).toNat = m - n := by
  have hlen := hy.mono_len hx hle
  have heq := h.eq
  have hlt := val_lt h.limbs
  have c0 := h.c0
  have c1 := h.c1
  rw [h.len] at hlt
  rw [val_take_all _ _ (Nat.le_refl _), val_take_all _ _ hlen, hx.val, hy.val] at heq
  rcases (show c = 0 ∨ c = 1 by omega) with rfl | rfl
  · rw [Int.mul_zero] at heq
    omega
  · rw [Int.mul_one] at heq
    omega
end Go.Proofs.YtgdbcpljdibliaaGreatDoor.Lmb

/- The evaluator, part S: Bools of a variable that are written out, as Bools. -/
set_option linter.unusedSimpArgs false
set_option linter.unusedVariables false
namespace Go.Proofs.YtgdbcpljdibliaaGreatDoor
namespace Eng
variable {P : Program} {F : Frm}
theorem Sat.boxBools {c : Code} {K : Exit → St → Prop} {n : Nat} {env : List (Nat × SV)} {own : List Own} (id : Nat) {blk ty : Nat} {cs : List SV} (hl : own[id]? = some (.box blk ty cs))
    (h : Sat P F c ⟨n, env, own.set id (.box blk ty (cs.map roB))⟩ K) : Sat P F c ⟨n, env, own⟩ K := by
  rintro R0 w0 a w ⟨ob, R, hr⟩
  refine h R0 w0 a w ⟨ob, R, ?_⟩
  have hbox := hr.own id _ hl
  have hidl : id < own.length := (List.getElem?_eq_some_iff.1 hl).1
  have hden : (cs.map roB).map SV.den = cs.map SV.den := by
    rw [List.map_map]
    exact List.map_congr_left fun s _ => roB_den s
  have hok : (Own.box blk ty (cs.map roB)).ok R ob w := by
    refine ⟨hbox.1, hbox.2.1, by rw [hden]; exact hbox.2.2.1, fun x hx => ?_⟩
    obtain ⟨s, hs, rfl⟩ := List.mem_map.1 hx
    obtain ⟨h1, h2⟩ := hbox.2.2.2 s hs
    refine ⟨by rw [roB_den]; exact h1, ?_⟩
    cases s <;> first | exact h2 | trivial
  refine ⟨hr.defers, hr.env, hr.size, ?_, ?_, hr.evo, hr.inv, hr.obM, ?_, hr.obw, hr.rr, hr.r0⟩
  · intro i x hx
    rw [List.getElem?_set] at hx
    split at hx
    · simp only [hidl, if_true, Option.some.injEq] at hx
      subst hx
      exact hok
    · exact hr.own i x hx
  · intro i k x y hik hx hy b hb1 hb2
    rw [List.getElem?_set] at hx hy
    split at hx <;> split at hy
    · omega
    · rename_i e1 _
      subst e1
      simp only [hidl, if_true, Option.some.injEq] at hx
      subst hx
      exact hr.dist id k _ y hik hl hy b hb1 hb2
    · rename_i _ e1
      subst e1
      simp only [hidl, if_true, Option.some.injEq] at hy
      subst hy
      exact hr.dist i id x _ hik hx hl b hb1 hb2
    · exact hr.dist i k x y hik hx hy b hb1 hb2
  · exact gb_set (m := w0.w.heap.size) (Nat.le_refl _) hr.gb hl fun b hb => .inl hb
end Eng
end Go.Proofs.YtgdbcpljdibliaaGreatDoor

/- Digits of numbers (no program in sight): decimal texts in chunks of nine, and numbers read digit by digit. -/
set_option linter.unusedSimpArgs false
set_option linter.unusedVariables false
namespace Go.Proofs.YtgdbcpljdibliaaGreatDoor
namespace Tq
open Lmb
def dch (n : Nat) : UInt8 := UInt8.ofNat (48 + n % 10)
theorem dec_small {n : Nat} (h : n < 10) : Lib.decDigits n = [dch n] := by
  rw [Lib.decDigits_one h]
  unfold dch
  rw [Nat.mod_eq_of_lt h]
theorem dec_big {n : Nat} (h : 10 ≤ n) : Lib.decDigits n = Lib.decDigits (n / 10) ++ [dch n] := by
  rw [Lib.decDigits, dif_neg (by omega)]
  rfl
def padN : Nat → Nat → List UInt8
  | 0, _ => []
  | k + 1, n => padN k (n / 10) ++ [dch n]
theorem padN_len : ∀ k n, (padN k n).length = k
  | 0, _ => rfl
  | k + 1, n => by rw [padN, List.length_append, padN_len k]; rfl
theorem padN_add : ∀ a b n, padN (a + b) n = padN a (n / 10 ^ b) ++ padN b n
  | a, 0, n => by simp [padN]
  | a, b + 1, n => by
    rw [← Nat.add_assoc, padN, padN_add a b, padN, ← List.append_assoc, Nat.div_div_eq_div_mul, Nat.pow_succ, Nat.mul_comm 10]
theorem dec_split : ∀ (k n : Nat), 10 ^ k ≤ n → 0 < n → Lib.decDigits n = Lib.decDigits (n / 10 ^ k) ++ padN k n
  | 0, n, _, _ => by simp [padN]
  | k + 1, n, h, h0 => by
    have h10 : 10 ≤ n := Nat.le_trans (by rw [Nat.pow_succ]; have := Nat.one_le_pow k 10 (by decide); omega) h
    rw [dec_big h10, dec_split k (n / 10) ((Nat.le_div_iff_mul_le (by decide)).2 (by rw [← Nat.pow_succ]; exact h)) (by omega), padN, ← List.append_assoc, Nat.div_div_eq_div_mul, Nat.pow_succ, Nat.mul_comm 10]
theorem dec_pos (n : Nat) : 1 ≤ (Lib.decDigits n).length := by
  by_cases h : n < 10
  · rw [dec_small h]; exact Nat.le_refl _
  · rw [dec_big (by omega), List.length_append]; simp
theorem padN_zero : ∀ k, padN k 0 = Lib.repeatL [48] k
  | 0 => rfl
  | k + 1 => by
    rw [padN, Nat.zero_div, padN_zero k, Lib.repeatL_add]
    rfl
theorem pad_dec : ∀ (k n : Nat), n < 10 ^ (k + 1) → (Lib.decDigits n).length ≤ k + 1 ∧ Lib.repeatL [48] (k + 1 - (Lib.decDigits n).length) ++ Lib.decDigits n = padN (k + 1) n
  | 0, n, h => by
    have h9 : n < 10 := by simpa using h
    rw [dec_small h9]
    exact ⟨Nat.le_refl _, rfl⟩
  | k + 1, n, h => by
    by_cases h9 : n < 10
    · rw [dec_small h9]
      refine ⟨by simp, ?_⟩
      rw [padN, show n / 10 = 0 by omega, padN_zero]
      rfl
    · obtain ⟨g1, g2⟩ := pad_dec k (n / 10) (Nat.div_lt_of_lt_mul (by rw [Nat.pow_succ] at h; omega))
      rw [dec_big (by omega), List.length_append]
      refine ⟨by simp; omega, ?_⟩
      rw [padN, ← g2, ← List.append_assoc, show k + 1 + 1 - ((Lib.decDigits (n / 10)).length + [dch n].length) = k + 1 - (Lib.decDigits (n / 10)).length by simp]
theorem padN_mod : ∀ (k n : Nat), padN k (n % 10 ^ k) = padN k n
  | 0, n => rfl
  | k + 1, n => by
    have e1 : n % 10 ^ (k + 1) / 10 = n / 10 % 10 ^ k := by
      rw [Nat.pow_succ, Nat.mul_comm, Nat.mod_mul_right_div_self]
    have e2 : n % 10 ^ (k + 1) % 10 = n % 10 := Nat.mod_mod_of_dvd n ⟨10 ^ k, by rw [Nat.pow_succ, Nat.mul_comm]⟩
    rw [padN, e1, padN_mod k, padN]
    unfold dch
    rw [e2]
theorem dec_two : ∀ (k n : Nat), n < 2 ^ k → (Lib.decDigits n).length ≤ k + 1
  | 0, n, h => by
    rw [dec_small (by have : n < 1 := by simpa using h
                      omega)]
    exact Nat.le_refl _
  | k + 1, n, h => by
    by_cases h9 : n < 10
    · rw [dec_small h9]; simp
    · rw [dec_big (by omega), List.length_append]
      have := dec_two k (n / 10) (by rw [Nat.pow_succ] at h; omega)
      simp
      omega
/-! ### The text in chunks -/
def chunk (r : Nat) : List UInt8 := if 0 < r / 1000000000 then Lib.repeatL [48] (9 - (Lib.decDigits (r % 1000000000)).length) ++ Lib.decDigits (r % 1000000000) else Lib.decDigits (r % 1000000000)
structure TextInv (n r : Nat) (parts : List (List UInt8)) : Prop where
  go : 0 < r → r = n / 10 ^ (9 * parts.length) ∧ parts.reverse.flatten = padN (9 * parts.length) n
  done : r = 0 → parts.reverse.flatten = Lib.decDigits n ∧ 0 < parts.length
  small : r * 2 ^ parts.length ≤ n
theorem TextInv.start {n : Nat} (h : 0 < n) : TextInv n n [] := ⟨fun _ => ⟨by simp, rfl⟩, fun h0 => by omega, by simp⟩
theorem TextInv.step {n r : Nat} {parts : List (List UInt8)} (h : TextInv n r parts) (hr : 0 < r) : TextInv n (r / 1000000000) (parts ++ [chunk r]) := by
  obtain ⟨h1, h2⟩ := h.go hr
  have hm : r % 1000000000 < 10 ^ (8 + 1) := Nat.mod_lt _ (by decide)
  have hlen : (parts ++ [chunk r]).length = parts.length + 1 := by simp
  have hfl : (parts ++ [chunk r]).reverse.flatten = chunk r ++ parts.reverse.flatten := by simp
  refine ⟨fun h0 => ?_, fun h0 => ?_, ?_⟩
  · rw [hlen, hfl, h2]
    refine ⟨?_, ?_⟩
    · rw [h1, Nat.div_div_eq_div_mul, show 9 * (parts.length + 1) = 9 * parts.length + 9 by omega, Nat.pow_add]
    · unfold chunk
      rw [if_pos h0, (pad_dec 8 _ hm).2, show 9 * (parts.length + 1) = 9 + 9 * parts.length by omega]
      have e := padN_add 9 (9 * parts.length) n
      rw [← h1] at e
      rw [e]
      congr 1
      exact padN_mod 9 r
  · rw [hlen, hfl, h2]
    refine ⟨?_, by omega⟩
    unfold chunk
    have hr9 : r % 1000000000 = r := Nat.mod_eq_of_lt (by omega)
    rw [if_neg (by omega), hr9, h1]
    have hle : 10 ^ (9 * parts.length) ≤ n := by
      rcases Nat.lt_or_ge n (10 ^ (9 * parts.length)) with h9 | h9
      · rw [Nat.div_eq_of_lt h9] at h1; omega
      · exact h9
    exact (dec_split _ n hle (Nat.lt_of_lt_of_le (Nat.pow_pos (by decide)) hle)).symm
  · rw [hlen, Nat.pow_succ]
    refine Nat.le_trans ?_ h.small
    have : r / 1000000000 * 2 ≤ r := by omega
    calc r / 1000000000 * (2 ^ parts.length * 2) = r / 1000000000 * 2 * 2 ^ parts.length := by rw [Nat.mul_comm (2 ^ parts.length), Nat.mul_assoc]
      _ ≤ r * 2 ^ parts.length := Nat.mul_le_mul_right _ this
theorem TextInv.len {n r k : Nat} {parts : List (List UInt8)} (h : TextInv n r parts) (hr : 0 < r) (hn : n < 2 ^ k) : parts.length < k := by
  have := h.small
  rcases Nat.lt_or_ge parts.length k with h9 | h9
  · exact h9
  · have h1 : 2 ^ k ≤ 2 ^ parts.length := Nat.pow_le_pow_right (by decide) h9
    have h2 : 2 ^ parts.length ≤ r * 2 ^ parts.length := Nat.le_mul_of_pos_left _ hr
    omega
theorem join_none (xs : List (List UInt8)) : Lib.join xs [] = xs.flatten := by
  cases xs with
  | nil => rfl
  | cons x r =>
    rw [Lib.join_cons, List.flatten_cons]
    congr 1
    unfold Lib.joinTail
    simp
/-! ### Reading digits -/
def isDig (c : UInt8) : Prop := 48 ≤ c.toNat ∧ c.toNat ≤ 57
def valD (l : List UInt8) : Nat := l.foldl (fun v c => 10 * v + (c.toNat - 48)) 0
theorem valD_snoc (l : List UInt8) (c : UInt8) : valD (l ++ [c]) = 10 * valD l + (c.toNat - 48) := by unfold valD; rw [List.foldl_append]; rfl
theorem dch_nat (n : Nat) : (dch n).toNat = 48 + n % 10 := by
  unfold dch
  rw [UInt8.toNat_ofNat']
  exact Nat.mod_eq_of_lt (by omega)
theorem valD_dec (n : Nat) : valD (Lib.decDigits n) = n ∧ (∀ c ∈ Lib.decDigits n, isDig c) := by
  induction n using Nat.strongRecOn with
  | _ n ih =>
    by_cases h : n < 10
    · rw [dec_small h]
      refine ⟨?_, fun c hc => ?_⟩
      · show 10 * 0 + ((dch n).toNat - 48) = n
        rw [dch_nat]; omega
      · rw [List.mem_singleton.1 hc]; unfold isDig; rw [dch_nat]; omega
    · obtain ⟨g1, g2⟩ := ih (n / 10) (by omega)
      rw [dec_big (by omega)]
      refine ⟨?_, fun c hc => ?_⟩
      · rw [valD_snoc, g1, dch_nat]; omega
      · rcases List.mem_append.1 hc with hc | hc
        · exact g2 c hc
        · rw [List.mem_singleton.1 hc]; unfold isDig; rw [dch_nat]; omega
theorem dec_inj {m n : Nat} (h : Lib.decDigits m = Lib.decDigits n) : m = n := by rw [← (valD_dec m).1, h, (valD_dec n).1]
theorem dec_head {n : Nat} (h : 0 < n) : (Lib.decDigits n)[0]? ≠ some 48 := by
  induction n using Nat.strongRecOn with
  | _ n ih =>
    by_cases h9 : n < 10
    · rw [dec_small h9]
      intro e
      simp only [List.getElem?_cons_zero, Option.some.injEq] at e
      have := congrArg UInt8.toNat e
      rw [dch_nat] at this
      have h48 : (48 : UInt8).toNat = 48 := rfl
      rw [h48] at this
      omega
    · rw [dec_big (by omega), List.getElem?_append_left (dec_pos _)]
      exact ih (n / 10) (by omega) (by omega)
theorem dec_len_mono {m n : Nat} (h : m ≤ n) : (Lib.decDigits m).length ≤ (Lib.decDigits n).length := by
  revert m
  induction n using Nat.strongRecOn with
  | _ n ih =>
    intro m h
    by_cases h9 : m < 10
    · rw [dec_small h9]; exact dec_pos n
    · rw [dec_big (n := m) (by omega), dec_big (n := n) (by omega), List.length_append, List.length_append]
      have hd : m / 10 ≤ n / 10 := Nat.div_le_div_right h
      have := ih (n / 10) (by omega) hd
      simp
      omega
theorem trim_all {l cs : List UInt8} (h : ∀ c ∈ l, cs.contains c = true) : Lib.trimS l cs = [] := by
  have h1 : ∀ (l : List UInt8), (∀ c ∈ l, cs.contains c = true) → l.dropWhile (cs.contains ·) = [] := by
    intro l hl
    induction l with
    | nil => rfl
    | cons x l ih =>
      rw [List.dropWhile_cons_of_pos (hl x (by simp)), ih fun c hc => hl c (by simp [hc])]
  unfold Lib.trimS Lib.trimRightS
  rw [h1 l.reverse fun c hc => h c (List.mem_reverse.1 hc)]
  rfl
structure DigInv (xs : List Int) (c0 : Int) (i : Nat) (ys : List Int) (carry : Int) : Prop where
  len : ys.length = xs.length
  limbs : Limbs ys
  rest : ∀ j, i ≤ j → ys.getD j 0 = xs.getD j 0
  c_lo : 0 ≤ carry
  c_hi : carry ≤ 10
  val : val (ys.take i) + pw i * carry = 10 * val (xs.take i) + c0
theorem DigInv.start {xs : List Int} {c0 : Int} (hx : Limbs xs) (h0 : 0 ≤ c0) (h1 : c0 ≤ 9) : DigInv xs c0 0 xs c0 := ⟨rfl, hx, fun _ _ => rfl, h0, by omega, by simp [Lmb.val, pw]⟩
theorem take_set_lt {xs : List Int} {i : Nat} {v : Int} : (xs.set i v).take i = xs.take i := by
  apply List.ext_getElem?
  intro j
  simp only [List.getElem?_take]
  split
  · rw [List.getElem?_set_ne (by omega)]
  · rfl
theorem DigInv.step {xs ys : List Int} {c0 carry : Int} {i : Nat} (h : DigInv xs c0 i ys carry) (hx : Limbs xs) (hi : i < xs.length) :
    DigInv xs c0 (i + 1) (ys.set i ((10 * ys.getD i 0 + carry) % 1073741824)) ((10 * ys.getD i 0 + carry) / 1073741824) := by
  have hl := h.len
  have hc0 := h.c_lo
  have hc1 := h.c_hi
  have hlim : 0 ≤ ys.getD i 0 ∧ ys.getD i 0 < 1073741824 := by
    have e : ys.getD i 0 = ys[i]'(by omega) := by simp [List.getD, show i < ys.length by omega]
    rw [e]; exact h.limbs _ (List.getElem_mem _)
  have hxe := h.rest i (Nat.le_refl _)
  have hgs : ∀ j, (ys.set i ((10 * ys.getD i 0 + carry) % 1073741824)).getD j 0 = if i = j then (10 * ys.getD i 0 + carry) % 1073741824 else ys.getD j 0 := fun j => by
    simp only [List.getD, List.getElem?_set]
    by_cases e : i = j
    · subst e; simp [show i < ys.length by omega]
    · simp [e]
  refine ⟨by rw [List.length_set]; exact hl, fun x hx => ?_, fun j hj => ?_, by omega, by omega, ?_⟩
  · rcases List.mem_or_eq_of_mem_set hx with hx | rfl
    · exact h.limbs x hx
    · omega
  · rw [hgs j, if_neg (by omega)]
    exact h.rest j (by omega)
  · rw [val_take_succ _ i (by rw [List.length_set]; omega), take_set_lt, hgs i, if_pos rfl, val_take_succ xs i hi, ← hxe]
    have hv := h.val
    have hp : pw (i + 1) = pw i * 1073741824 := by unfold pw; rw [Int.pow_succ]
    rw [hp]
    have hdm := Int.emod_add_mul_ediv (10 * ys.getD i 0 + carry) 1073741824
    generalize (10 * ys.getD i 0 + carry) % 1073741824 = q at hdm ⊢
    generalize (10 * ys.getD i 0 + carry) / 1073741824 = d at hdm ⊢
    have e1 : pw i * q + pw i * 1073741824 * d = pw i * (10 * ys.getD i 0 + carry) := by rw [← hdm, Int.mul_add, Int.mul_assoc]
    have e2 : pw i * (10 * ys.getD i 0 + carry) = 10 * (pw i * ys.getD i 0) + pw i * carry := by rw [Int.mul_add, Int.mul_left_comm]
    have e3 : 10 * (Lmb.val (xs.take i) + pw i * ys.getD i 0) = 10 * Lmb.val (xs.take i) + 10 * (pw i * ys.getD i 0) := Int.mul_add _ _ _
    omega
end Tq
end Go.Proofs.YtgdbcpljdibliaaGreatDoor

/- The evaluator: range over a string of ASCII bytes (an iterator is a block of the call's own). -/
set_option linter.unusedSimpArgs false
set_option linter.unusedVariables false
namespace Go.Proofs.YtgdbcpljdibliaaGreatDoor
namespace Eng
def IterAt (blk : Nat) (s : ByteArray) (pos : Nat) (w : World) : Prop := w.heap[blk]? = some (.stringIter s pos)
theorem run_next_at {P : Program} (w : World) (blk : Nat) (s : ByteArray) (pos : Nat) (ty : TypeId) (hw : w.heap[blk]? = some (.stringIter s pos)) (h : pos < s.size) (ha : (s[pos]'h).toNat < 128) :
    (Instr.next (.pointer (some ⟨blk, 0, none⟩)) true ty).run P w = .ok (.tuple #[.bool true, .int .i64 pos, .int .i32 (s[pos]'h).toNat]) { w with heap := w.heap.setIfInBounds blk (.stringIter s (pos + 1)) } := by
  simp only [Instr.next, getObj, setObj, Sem.run_bind, Sem.run, hw, Result.andThen, h, if_true, decode_ascii s pos h ha]
  simp [goInt, Sem.run, hw]
theorem run_next_over {P : Program} (w : World) (blk : Nat) (s : ByteArray) (pos : Nat) (ty : TypeId) (hw : w.heap[blk]? = some (.stringIter s pos)) (h : ¬ pos < s.size) :
    (Instr.next (.pointer (some ⟨blk, 0, none⟩)) true ty).run P w = .ok (.tuple #[.bool false]) w := by
  simp [Instr.next, getObj, Sem.run, hw, h]
variable {P : Program}
theorem Sat.region_next {F : Frm} {n : Nat} {env : List (Nat × SV)} {own : List Own} {K : Exit → St → Prop} {id : Nat} {rest : List Oper} {d it : Tmp} {ty : TypeId} {posn : String} {aft : Array Edge} {blk oid pos : Nat} {s : ByteArray} (hd : d < n)
    (hit : look env it = some (.v (.pointer (some ⟨blk, 0, none⟩)))) (ho : own[oid]? = some (.res blk (IterAt blk s pos))) (hasc : ∀ h : pos < s.size, (s[pos]'h).toNat < 128)
    (h1 : ∀ h : pos < s.size, ∀ k : St → Prop, (∀ st', K .normal st' → k st') → WO P F ((⟨some d, .next (.tmp it) true, ty, posn, aft, none⟩ :: rest).map (·.dst)) rest ⟨n, (d, .tup 3 fun j => [SV.b true, .i .i64 pos, .i .i32 (s[pos]'h).toNat].getD j default) :: env, own.set oid (.res blk (IterAt blk s (pos + 1)))⟩ k)
    (h2 : ¬ pos < s.size → ∀ k : St → Prop, (∀ st', K .normal st' → k st') → WO P F ((⟨some d, .next (.tmp it) true, ty, posn, aft, none⟩ :: rest).map (·.dst)) rest ⟨n, (d, .tup 1 fun j => [SV.b false].getD j default) :: env, own⟩ k) :
    Sat P F (.region id (⟨some d, .next (.tmp it) true, ty, posn, aft, none⟩ :: rest).toArray false) ⟨n, env, own⟩ K := by
  intro R0 w0 a w hr
  refine wp_region_lit ?_
  unfold wpList
  rw [if_pos (by simp [Region.wanted])]
  refine .inl ?_
  obtain ⟨ob, R, hrr⟩ := hr
  have hown := hrr.own oid _ ho
  obtain ⟨b1, b2, b3, b4⟩ := hown
  have hit' : a.eval (.tmp it) = .pointer (some ⟨blk, 0, none⟩) := (ev_ok hrr.env (x := .tmp it) hit).1
  have hblk : w.heap[blk]? = some (.stringIter s pos) := b4 w fun _ _ => rfl
  unfold Oper.wp
  by_cases hp : pos < s.size
  · have hrun := run_next_at (P := P) w blk s pos ty hblk hp (hasc hp)
    have hop : (execOp a.eval ⟨some d, .next (.tmp it) true, ty, posn, aft, none⟩).run P w = .ok (.value (.tuple #[.bool true, .int .i64 pos, .int .i32 (s[pos]'hp).toNat])) { w with heap := w.heap.setIfInBounds blk (.stringIter s (pos + 1)) } := by
      simp [execOp, hit', hrun]
    rw [hop]
    have hsz : w.heap.size ≤ (w.heap.setIfInBounds blk (.stringIter s (pos + 1))).size := by simp
    have hnew : RelR F R0 w0 ob R ⟨n, env, own.set oid (.res blk (IterAt blk s (pos + 1)))⟩ a { w with heap := w.heap.setIfInBounds blk (.stringIter s (pos + 1)) } :=
      hrr.setOwn (g := blk) ho rfl (fun b hb => by simpa [Own.blk] using hb.symm) rfl rfl rfl hsz (fun b hb hne => by simp [Array.getElem?_setIfInBounds, Ne.symm hne])
        ⟨b1, b2, by simpa using b3, fun w' hw' => by
          have := hw' blk (.inr rfl)
          unfold IterAt
          rw [this]
          simp [Array.getElem?_setIfInBounds, b3]⟩
    have hput := hnew.put (d := some d) (s := .tup 3 fun j => [SV.b true, .i .i64 pos, .i .i32 (s[pos]'hp).toNat].getD j default) (fun t ht => by cases ht; exact hd) (fun j hj => by
      rcases (show j = 0 ∨ j = 1 ∨ j = 2 by omega) with rfl | rfl | rfl <;> trivial)
    exact wo_sound (Q := fun e a1 w1 => ∃ st1, K e st1 ∧ Rel F R0 w0 st1 a1 w1) (ops := (⟨some d, .next (.tmp it) true, ty, posn, aft, none⟩ :: rest).toArray) (k := K .normal) rest _ _ _ (by rw [List.toList_toArray]; exact h1 hp _ fun _ h => h) ⟨ob, R, hput⟩ fun st' a' w' hk hr' => ⟨st', hk, hr'⟩
  · have hrun := run_next_over (P := P) w blk s pos ty hblk hp
    have hop : (execOp a.eval ⟨some d, .next (.tmp it) true, ty, posn, aft, none⟩).run P w = .ok (.value (.tuple #[.bool false])) w := by
      simp [execOp, hit', hrun]
    rw [hop]
    have hput := hrr.put (d := some d) (s := .tup 1 fun j => [SV.b false].getD j default) (fun t ht => by cases ht; exact hd) (fun j hj => by
      obtain rfl : j = 0 := by omega
      trivial)
    exact wo_sound (Q := fun e a1 w1 => ∃ st1, K e st1 ∧ Rel F R0 w0 st1 a1 w1) (ops := (⟨some d, .next (.tmp it) true, ty, posn, aft, none⟩ :: rest).toArray) (k := K .normal) rest _ _ _ (by rw [List.toList_toArray]; exact h2 hp _ fun _ h => h) ⟨ob, R, hput⟩ fun st' a' w' hk hr' => ⟨st', hk, hr'⟩
theorem Sat.region_range {F : Frm} {n : Nat} {env : List (Nat × SV)} {own : List Own} {K : Exit → St → Prop} {id : Nat} {d e x : Tmp} {t ty0 ty1 : TypeId} {p0 p1 : String} {aft0 aft1 : Array Edge} {s : ByteArray} (hd : d < n) (he : e < n)
    (ht : P.underlying t = some .string) (hx : look env x = some (.v (.string s)))
    (h : ∀ blk, K .normal ⟨n, (e, .v (.pointer (some ⟨blk, 0, none⟩))) :: (d, .v (.string s)) :: env, own ++ [.res blk (IterAt blk s 0)]⟩) :
    Sat P F (.region id #[⟨some d, .move (.tmp x), ty0, p0, aft0, none⟩, ⟨some e, .range t (.tmp d), ty1, p1, aft1, none⟩] false) ⟨n, env, own⟩ K := by
  intro R0 w0 a w hr
  refine wp_region_lit ?_
  obtain ⟨ob, R, hrr⟩ := hr
  have hx' : a.eval (.tmp x) = .string s := (ev_ok hrr.env (x := .tmp x) hx).1
  unfold wpList
  rw [if_pos (by simp [Region.wanted])]
  refine .inl ?_
  unfold Oper.wp
  have hop : (execOp a.eval ⟨some d, .move (.tmp x), ty0, p0, aft0, none⟩).run P w = .ok (.value (.string s)) w := by
    simp [execOp, hx']
  rw [hop]
  have hput := hrr.put (d := some d) (s := .v (.string s)) (fun t ht => by cases ht; exact hd) trivial
  have hd' : (a.put (some d) (.string s)).eval (.tmp d) = .string s := (ev_ok hput.env (x := .tmp d) (s := .v (.string s)) (by simp [ev, St.put, look])).1
  show wpList P _ _ [_] (a.put (some d) (.string s)) w
  unfold wpList
  rw [if_pos (by simp [Region.wanted])]
  refine .inl ?_
  unfold Oper.wp
  have hop2 : (execOp (a.put (some d) (.string s)).eval ⟨some e, .range t (.tmp d), ty1, p1, aft1, none⟩).run P w = .ok (.value (.pointer (some ⟨w.heap.size, 0, none⟩))) (w.iter s 0) := by
    have := run_range_string (P := P) w t s ht
    simp [execOp, hd', this]
  rw [hop2]
  have hg : w.grownBy (w.iter s 0) none := ⟨rfl, rfl, rfl, (by show w.heap.size ≤ (w.heap.push _).size; simp), fun b hb _ => by
    show (w.heap.push _)[b]? = _
    rw [Array.getElem?_push, if_neg (by omega)]⟩
  have hnew := hput.newRow (o := .res w.heap.size (IterAt w.heap.size s 0)) hg (fun b hb => by simpa [Own.blk] using hb.symm) ⟨hput.obw, fun hc => by have := (hput.rr _ hc).1; omega, (by show w.heap.size < (w.heap.push _).size; simp), fun w' hw' => by
    unfold IterAt
    rw [hw' _ (.inr rfl), World.iter_heap]⟩
  have hput2 := hnew.put (d := some e) (s := .v (.pointer (some ⟨w.heap.size, 0, none⟩))) (fun t ht => by cases ht; exact he) trivial
  exact ⟨_, h w.heap.size, ob, R, hput2⟩
end Eng
end Go.Proofs.YtgdbcpljdibliaaGreatDoor

/- Texts of fractions (no program in sight). -/
set_option linter.unusedSimpArgs false
set_option linter.unusedVariables false
namespace Go.Proofs.YtgdbcpljdibliaaGreatDoor
namespace Tq
def frBody (p q : Nat) : List UInt8 := Lib.decDigits p ++ if q = 1 then [] else 47 :: Lib.decDigits q
def frText (neg : Bool) (p q : Nat) : List UInt8 := if neg = true then 45 :: frBody p q else frBody p q
theorem dig_ne {c : UInt8} (h : isDig c) {m : UInt8} (hm : m.toNat < 48) : c ≠ m := fun e => by
  subst e
  unfold isDig at h
  omega
theorem dec_ne (n : Nat) {m : UInt8} (hm : m.toNat < 48) : ∀ c ∈ Lib.decDigits n, c ≠ m := fun c hc => dig_ne ((valD_dec n).2 c hc) hm
theorem cut_unique {m : UInt8} : ∀ {l l' r r' : List UInt8}, (∀ c ∈ l, c ≠ m) → (∀ c ∈ l', c ≠ m) → l ++ m :: r = l' ++ m :: r' → l = l' ∧ r = r'
  | [], [], r, r', _, _, h => ⟨rfl, by simpa using h⟩
  | [], x :: l', r, r', _, h2, h => by
    simp only [List.nil_append, List.cons_append, List.cons.injEq] at h
    exact absurd h.1.symm (h2 x (by simp))
  | x :: l, [], r, r', h1, _, h => by
    simp only [List.nil_append, List.cons_append, List.cons.injEq] at h
    exact absurd h.1 (h1 x (by simp))
  | x :: l, y :: l', r, r', h1, h2, h => by
    simp only [List.cons_append, List.cons.injEq] at h
    obtain ⟨e1, e2⟩ := cut_unique (fun c hc => h1 c (by simp [hc])) (fun c hc => h2 c (by simp [hc])) h.2
    exact ⟨by rw [h.1, e1], e2⟩
theorem body_inj {p q p' q' : Nat} (h : frBody p q = frBody p' q') : p = p' ∧ q = q' := by
  unfold frBody at h
  by_cases h1 : q = 1
  · by_cases h2 : q' = 1
    · rw [if_pos h1, if_pos h2, List.append_nil, List.append_nil] at h
      exact ⟨dec_inj h, by omega⟩
    · rw [if_pos h1, if_neg h2, List.append_nil] at h
      exfalso
      have hm : (47 : UInt8) ∈ Lib.decDigits p := by rw [h]; simp
      exact dec_ne p (m := 47) (by decide) 47 hm rfl
  · by_cases h2 : q' = 1
    · rw [if_neg h1, if_pos h2, List.append_nil] at h
      exfalso
      have hm : (47 : UInt8) ∈ Lib.decDigits p' := by rw [← h]; simp
      exact dec_ne p' (m := 47) (by decide) 47 hm rfl
    · rw [if_neg h1, if_neg h2] at h
      obtain ⟨e1, e2⟩ := cut_unique (dec_ne p (by decide)) (dec_ne p' (by decide)) h
      exact ⟨dec_inj e1, dec_inj e2⟩
theorem body_head (p q : Nat) : (frBody p q).head? ≠ some 45 := by
  unfold frBody
  have h := dec_pos p
  cases hd : Lib.decDigits p with
  | nil => rw [hd] at h; simp at h
  | cons c l =>
    simp only [List.cons_append, List.head?_cons, ne_eq, Option.some.injEq]
    exact dec_ne p (m := 45) (by decide) c (by rw [hd]; simp)
theorem text_inj {neg neg' : Bool} {p q p' q' : Nat} (h : frText neg p q = frText neg' p' q') : neg = neg' ∧ p = p' ∧ q = q' := by
  unfold frText at h
  cases neg with
  | true =>
    cases neg' with
    | true =>
      simp only [if_true, List.cons.injEq, true_and] at h
      exact ⟨rfl, body_inj h⟩
    | false =>
      simp only [if_true, Bool.false_eq_true, if_false] at h
      exact absurd (by rw [← h]; rfl) (body_head p' q')
  | false =>
    cases neg' with
    | true =>
      simp only [if_true, Bool.false_eq_true, if_false] at h
      exact absurd (by rw [h]; rfl) (body_head p q)
    | false =>
      simp only [Bool.false_eq_true, if_false] at h
      exact ⟨rfl, body_inj h⟩
theorem pre_text (N : Bool) (P Q : Nat) : Lib.hasPrefix (frText N P Q) [45] = N ∧ Lib.trimPrefix (frText N P Q) [45] = frBody P Q := by
  have h : Lib.hasPrefix (frText N P Q) [45] = N := by
    unfold frText Lib.hasPrefix
    cases N with
    | true => simp [List.isPrefixOf]
    | false =>
      have hb := body_head P Q
      simp only [Bool.false_eq_true, if_false]
      cases he : frBody P Q with
      | nil => rfl
      | cons c l =>
        rw [he] at hb
        simp only [List.isPrefixOf, Bool.and_true, beq_eq_false_iff_ne]
        intro e
        exact hb (by rw [← e]; rfl)
  refine ⟨h, ?_⟩
  unfold Lib.trimPrefix
  rw [h]
  unfold frText
  cases N <;> simp
theorem body_zero {P Q : Nat} : (frBody P Q == [48]) = decide (P = 0 ∧ Q = 1) := by
  have e : frBody 0 1 = [48] := by unfold frBody; rw [if_pos rfl, dec_small (by decide)]; rfl
  apply Bool.eq_iff_iff.2
  rw [beq_iff_eq, decide_eq_true_eq]
  constructor
  · intro h
    rw [← e] at h
    exact body_inj h
  · rintro ⟨rfl, rfl⟩
    exact e
theorem index_at {m : UInt8} : ∀ {l r : List UInt8}, (∀ c ∈ l, c ≠ m) → Lib.indexByte (l ++ m :: r) m = (l.length : Int)
  | [], r, _ => by
    show (if (m == m) = true then (0 : Int) else _) = 0
    rw [if_pos (beq_self_eq_true m)]
  | x :: l, r, h => by
    have ih := index_at (l := l) (r := r) (fun c hc => h c (by simp [hc]))
    show (if (x == m) = true then (0 : Int) else if (Lib.indexByte (l ++ m :: r) m == -1) = true then -1 else Lib.indexByte (l ++ m :: r) m + 1) = _
    rw [if_neg (by rw [beq_iff_eq]; exact h x (by simp)), ih, if_neg (by rw [beq_iff_eq]; omega)]
    simp
theorem index_no {m : UInt8} : ∀ {l : List UInt8}, (∀ c ∈ l, c ≠ m) → Lib.indexByte l m = -1
  | [], _ => rfl
  | x :: l, h => by
    have ih := index_no (l := l) (fun c hc => h c (by simp [hc]))
    show (if (x == m) = true then (0 : Int) else if (Lib.indexByte l m == -1) = true then -1 else Lib.indexByte l m + 1) = _
    rw [if_neg (by rw [beq_iff_eq]; exact h x (by simp)), ih]
    rfl
end Tq
end Go.Proofs.YtgdbcpljdibliaaGreatDoor

/- The evaluator: a row in a struct variable is only read from now on. -/
set_option linter.unusedSimpArgs false
set_option linter.unusedVariables false
namespace Go.Proofs.YtgdbcpljdibliaaGreatDoor
namespace Eng
theorem Sat.settleLeafF {P : Program} {F : Frm} {n : Nat} {env : List (Nat × SV)} {own : List Own} {c : Code} {K : Exit → St → Prop} (id j : Nat) {blk ty id2 len cap e sz : Nat} {ad : Option Addr} {cs : List SV} {rd : Nat → Nat → SV}
    (hb : own[id]? = some (.box blk ty cs)) (hj : cs[j]? = some (.os id2 ad len cap)) (h2 : own[id2]? = some (.row ad e len cap sz rd))
    (h : Sat P F c ⟨n, env, (own.set id2 (.frz ad len cap sz rd)).set id (.box blk ty (cs.set j (.sl ad len cap sz rd)))⟩ K) : Sat P F c ⟨n, env, own⟩ K := by
  rintro R0 w0 a w ⟨ob, R, hr⟩
  have hf : frz own [.os id2 ad len cap] = own.set id2 (.frz ad len cap sz rd) := by simp [frz, frzOne, h2]
  have hne : id2 ≠ id := fun e => by subst e; rw [hb] at h2; cases h2
  have hlt2 : id2 < own.length := (List.getElem?_eq_some_iff.1 h2).1
  obtain ⟨R', hRR, hr'⟩ := hr.frz [.os id2 ad len cap]
  rw [hf] at hr'
  have hb' : (own.set id2 (.frz ad len cap sz rd))[id]? = some (.box blk ty cs) := by rw [List.getElem?_set_ne hne]; exact hb
  have h2' : (own.set id2 (.frz ad len cap sz rd))[id2]? = some (.frz ad len cap sz rd) := by rw [List.getElem?_set_self hlt2]
  obtain ⟨g1, g2, g3, g4⟩ := hr'.own id _ hb'
  have hfz : (SV.sl ad len cap sz rd).ok R' w := hr'.own id2 _ h2'
  refine h R0 w0 a w ⟨ob, R', ?_⟩
  have hjl : j < cs.length := (List.getElem?_eq_some_iff.1 hj).1
  have hden : (cs.set j (.sl ad len cap sz rd)).map SV.den = cs.map SV.den := by
    apply List.ext_getElem?
    intro q
    rw [List.getElem?_map, List.getElem?_map, List.getElem?_set]
    split
    · rename_i e
      subst e
      simp only [hjl, if_true, hj, Option.map_some]
      rfl
    · rfl
  refine hr'.setOwn (g := blk) hb' rfl (fun b hb => by simpa [Own.blk] using hb.symm) rfl rfl rfl (Nat.le_refl _) (fun _ _ _ => rfl) ⟨g1, g2, by rw [hden]; exact g3, fun c' hc' => ?_⟩
  rcases List.mem_or_eq_of_mem_set hc' with hc' | rfl
  · exact g4 c' hc'
  · exact ⟨rfl, hfz⟩
end Eng
end Go.Proofs.YtgdbcpljdibliaaGreatDoor

/- The evaluator, part U: regions that draw their order, by masks: any tree of orders. -/
set_option linter.unusedSimpArgs false
set_option linter.unusedVariables false
namespace Go.Proofs.YtgdbcpljdibliaaGreatDoor
namespace Eng
def inL (j : Nat) : List Nat → Bool
  | [] => false
  | i :: l => Nat.beq j i || inL j l
theorem inL_mem {j : Nat} : ∀ {l : List Nat}, inL j l = true → j ∈ l
  | i :: l, h => by
    simp only [inL, Bool.or_eq_true, Nat.beq_eq] at h
    rcases h with rfl | h
    · exact .head _
    · exact .tail _ (inL_mem h)
def chkBT (T : List Row) : BT → Bool → Nat → Nat → Bool
  | .done, _, m, mask => Nat.beq m 0 && allI (fun j r => !readyR mask j r) 0 T
  | .free k t, _, m + 1, mask => (match T[k]? with | some rk => readyR mask k rk && Nat.beq rk.kind 0 && freeR T mask k rk | none => false) && chkBT T t true m (mask ||| (1 <<< k))
  | .one k t, _, m + 1, mask => (match T[k]? with | some rk => readyR mask k rk | none => false) && allI (fun j r => Nat.beq j k || !readyR mask j r) 0 T && chkBT T t true m (mask ||| (1 <<< k))
  | .alt i t r, top, m + 1, mask => (!top || allI (fun j rr => !readyR mask j rr || inL j (i :: r.heads)) 0 T) && (match T[i]? with | some ri => readyR mask i ri | none => false) && chkBT T t true m (mask ||| (1 <<< i)) && chkBT T r false (m + 1) mask
  | .none, top, _, _ => !top
  | _, _, _, _ => false
section
variable {l : List Oper} {T : List Row} {mask : Nat}
theorem chkBT_ok (ht : tabOk .any l.toArray l.length l T = true) : ∀ (B : BT) (top : Bool) (m mask : Nat), chkBT T B top m mask = true → btGo .any l.toArray B top m (lst l.length mask) = true
  | .done, top, m, mask, h => by
    simp only [chkBT, Bool.and_eq_true, Nat.beq_eq] at h
    simp only [btGo, Bool.and_eq_true, beq_iff_eq]
    refine ⟨h.1, ?_⟩
    rw [ready_none ht h.2]; rfl
  | .free k t, top, 0, mask, h => by simp [chkBT] at h
  | .one k t, top, 0, mask, h => by simp [chkBT] at h
  | .alt i t r, top, 0, mask, h => by simp [chkBT] at h
  | .none, top, m, mask, h => by simpa [chkBT, btGo] using h
  | .free k t, top, m + 1, mask, h => by
    simp only [chkBT, Bool.and_eq_true] at h
    obtain ⟨h1, h3⟩ := h
    cases hk : T[k]? with
    | none => rw [hk] at h1; cases h1
    | some rk =>
      rw [hk] at h1
      obtain ⟨o, ho, rfl⟩ := op_at ht hk
      simp only [Bool.and_eq_true, Nat.beq_eq] at h1
      obtain ⟨⟨h1, h4⟩, h5⟩ := h1
      simp only [btGo, Bool.and_eq_true]
      refine ⟨⟨⟨by simpa using (ready_iff ht hk).2 h1, by rw [ho]; exact kind0 h4⟩, free_of ht ho h5⟩, ?_⟩
      rw [lst_set]
      exact chkBT_ok ht t _ _ _ h3
  | .one k t, top, m + 1, mask, h => by
    simp only [chkBT, Bool.and_eq_true] at h
    obtain ⟨⟨h1, h2⟩, h3⟩ := h
    cases hk : T[k]? with
    | none => rw [hk] at h1; cases h1
    | some rk =>
      rw [hk] at h1
      obtain ⟨o, ho, rfl⟩ := op_at ht hk
      simp only [btGo, Bool.and_eq_true, beq_iff_eq]
      refine ⟨⟨ready_one ht hk h1 h2, by rw [ho]; rfl⟩, ?_⟩
      rw [lst_set]
      exact chkBT_ok ht t _ _ _ h3
  | .alt i t r, top, m + 1, mask, h => by
    simp only [chkBT, Bool.and_eq_true] at h
    obtain ⟨⟨⟨h1, h2⟩, h3⟩, h4⟩ := h
    cases hi : T[i]? with
    | none => rw [hi] at h2; cases h2
    | some ri =>
      rw [hi] at h2
      have hmem := (ready_iff ht hi).2 h2
      obtain ⟨o, ho, _⟩ := op_at ht hi
      simp only [btGo, Bool.and_eq_true]
      refine ⟨⟨⟨⟨?_, ?_⟩, by rw [ho]; rfl⟩, by rw [lst_set]; exact chkBT_ok ht t _ _ _ h3⟩, chkBT_ok ht r _ _ _ h4⟩
      · cases top with
        | false => rfl
        | true =>
          simp only [Bool.not_true, Bool.false_or] at h1 ⊢
          rw [List.all_eq_true]
          intro j hj
          cases hTj : T[j]? with
          | none =>
            obtain ⟨hlen, _⟩ := tabOk_get l T ht
            have hlt : j < l.length := by
              obtain ⟨_, o, ho, _⟩ := mem_ready.1 hj
              simpa using (Array.getElem?_eq_some_iff.1 ho).1
            rw [List.getElem?_eq_none_iff] at hTj
            omega
          | some rj =>
            have g := allI_get T 0 h1 j rj hTj
            rw [Nat.zero_add, (ready_iff ht hTj).1 hj] at g
            simp only [Bool.not_true, Bool.false_or] at g
            simpa using inL_mem g
      · cases hr : Region.ready .any l.toArray (lst l.length mask) with
        | nil => rw [hr] at hmem; cases hmem
        | cons a b => rfl
end
def keepBT (l : List Oper) (T : List Row) (X : List Nat) (B : BT) (m : Nat) (ws : List Nat) : Bool := Region.noSelect l.toArray && tabOk .any l.toArray l.length l T && chkX T (maskL X ||| maskL ws) X 0 (fun mask => chkBT T B true m mask) && Nat.beq (X.length + m) l.length
section
variable {P : Program} {F : Frm} {l : List Oper} {T : List Row} {Q : Exit → Act → World → Prop} {k : St → Prop} {R0 : Nat → Prop} {w0 : Org}
theorem Sat.region_bt {K : Exit → St → Prop} {st : St} {id : Nat} {l : List Oper} (T : List Row) (X : List Nat) (B : BT) (m : Nat) (ws : List Nat) (hm : P.follows .mixedOrders = true) (hB : keepBT l T X B m ws = true) (hpan : ∀ c st, ¬ K (.panic c) st)
    (h : ∀ k : St → Prop, (∀ st', K .normal st' → k st') → WO P F (l.map (·.dst)) (X.map fun i => l.getD i default) st fun st2 => WBT P F (l.map (·.dst)) l st.own (keepW X ws) true B st2 k) : Sat P F (.region id l.toArray true) st K := by
  rintro R0 w0 a w ⟨ob, R, hr⟩
  simp only [keepBT, Bool.and_eq_true, Nat.beq_eq] at hB
  obtain ⟨⟨⟨hsel, ht⟩, hc⟩, hlen⟩ := hB
  have hdrew : Grown w { w with drawn := w.drawn + 1 } := ⟨rfl, rfl, rfl, Nat.le_refl _, fun _ _ _ => rfl⟩
  refine wp_region_any hm ?_
  have hpan' : ∀ c a w, ¬ (fun e a' w' => ∃ st', K e st' ∧ Rel F R0 w0 st' a' w') (.panic c) a w := fun c a w ⟨st', hk, _⟩ => hpan c st' hk
  have := keep_sound (P := P) (F := F) (R0 := R0) (w0 := w0) (Q := fun e a' w' => ∃ st', K e st' ∧ Rel F R0 w0 st' a' w') (k := K .normal) hpan' hsel X ws B m (lst l.length 0) st a { w with drawn := w.drawn + 1 }
    (chkX_ok ht (keepW X ws) _ (fun j hj => by rw [Nat.testBit_or, maskL_bit, maskL_bit] at hj; exact hj) B m _ (fun mask hb => chkBT_ok ht B true m mask hb) X 0 hc)
    (by simpa using h _ fun _ h => h) ⟨ob, R, hr.grown hdrew⟩ (fun st' a' w' hk hr' => ⟨st', hk, hr'⟩)
  rw [hlen, lst_zero] at this
  simpa using this
end
end Eng
end Go.Proofs.YtgdbcpljdibliaaGreatDoor
