/- The evaluator, part V: a struct that holds rows of the call's own is handed to a function that only reads them. -/
import Derived.Test.YtpkmnggfomllhaaDoorEngR
set_option linter.unusedSimpArgs false
set_option linter.unusedVariables false
namespace Go.Proofs.YtpkmnggfomllhaaDoor
namespace Eng
section
variable {P : Program} {F : Frm}
def noRow (own : List Own) : SV → Bool
  | .os id _ _ _ => match own[id]? with | some (.row _ _ _ _ _ _) => false | _ => true
  | _ => true
def leafOk (own : List Own) : SV → Bool
  | .agg n rd => (List.range n).all fun j => noRow own (rd j)
  | s => noRow own s
def leafS (own : List Own) : SV → SV
  | .agg n rd => .agg n fun j => roSl own (rd j)
  | s => roArgS own s
theorem roSl_frz {R0 R : Nat → Prop} {w0 : Org} {w : World} {ob : Nat} {st : St} {a : Act} (hr : RelR F R0 w0 ob R st a w) {s : SV} (hn : noRow st.own s = true) (hs : s.ok R w) : (roSl st.own s).den = s.den ∧ (roSl st.own s).ok R w := by
  refine ⟨(roSl_ok hr hs).1, ?_⟩
  unfold roSl
  cases hany : asAny st.own s with
  | none => exact hs
  | some p =>
    obtain ⟨a', len, cap, sz, rd⟩ := p
    have rd_ok : ∀ {s : SV}, asRead st.own s = some (a', len, cap, sz, rd) → s.ok R w → (SV.sl a' len cap sz rd).ok R w := fun h1 h2 => (asRead_ok (st := st) h1 hr.own h2).2
    unfold asAny at hany
    split at hany
    · rename_i id a1 len1 cap1
      split at hany
      · rename_i a2 e2 len2 cap2 sz2 rd2 ho2
        simp only [noRow, ho2] at hn
        cases hn
      · exact rd_ok hany hs
    · exact rd_ok hany hs
theorem leafS_ok {R0 R : Nat → Prop} {w0 : Org} {w : World} {ob : Nat} {st : St} {a : Act} (hr : RelR F R0 w0 ob R st a w) {s : SV} (hn : leafOk st.own s = true) (hs : s.ok R w) : (leafS st.own s).den = s.den ∧ (leafS st.own s).ok R w := by
  have top : ∀ s : SV, noRow st.own s = true → s.ok R w → (roArgS st.own s).den = s.den ∧ (roArgS st.own s).ok R w := fun s hn hs => by
    have := roSl_frz hr hn hs
    cases s <;> first | exact ⟨rfl, trivial⟩ | exact this
  cases s with
  | agg n rd =>
    have hn' : ∀ j, j < n → noRow st.own (rd j) = true := fun j hj => List.all_eq_true.1 hn j (List.mem_range.2 hj)
    refine ⟨?_, fun j hj => (roSl_frz hr (hn' j hj) (hs j hj)).2⟩
    simp only [leafS, SV.den]
    congr 2
    apply List.map_congr_left
    intro j hj
    exact (roSl_frz hr (hn' j (List.mem_range.1 hj)) (hs j (List.mem_range.1 hj))).1
  | v x => exact top (.v x) hn hs
  | i k m => exact top (.i k m) hn hs
  | b x => exact top (.b x) hn hs
  | tt => exact top .tt hn hs
  | ff => exact top .ff hn hs
  | sl a l c z rd => exact top (.sl a l c z rd) hn hs
  | el a m rd => exact top (.el a m rd) hn hs
  | os id a l c => exact top (.os id a l c) hn hs
  | mp id b => exact top (.mp id b) hn hs
  | oe id b o x j => exact top (.oe id b o x j) hn hs
  | op id b o => exact top (.op id b o) hn hs
  | tup m rd => exact top (.tup m rd) hn hs
  | ow id a z o l c => exact top (.ow id a z o l c) hn hs
  | fn f m rd => exact top (.fn f m rd) hn hs
theorem callK_leaf {st : St} {dst : Option Tmp} {k : St → Prop} {f : FuncId} {args : List SV} {post : SV → Prop} (ids : List SV) {own' : List Own} (hown : frz st.own ids = own') (hl : args.all (leafOk own') = true) (h : Contract F P f (args.map (leafS own')) post)
    (hk : ∀ r, post r → k (St.put { st with own := own' } dst r)) : CallK P F f args st dst k := by
  subst hown
  intro R0 w0 ob R a w hr hargs
  refine ⟨h.enters, ?_⟩
  obtain ⟨R1, hm1, hr1⟩ := hr.frz ids
  have hargs1 : ∀ s ∈ args, s.ok R1 w := fun s hs => SV.ok_mono hm1 (fun _ _ => rfl) s (hargs s hs)
  have hall : ∀ s ∈ args, leafOk (frz st.own ids) s = true := List.all_eq_true.1 hl
  have hden : (args.map (leafS (Eng.frz st.own ids))).map SV.den = args.map SV.den := by
    rw [List.map_map]
    exact List.map_congr_left fun s hs => (leafS_ok hr1 (hall s hs) (hargs1 s hs)).1
  have hok : ∀ s ∈ args.map (leafS (Eng.frz st.own ids)), s.ok R1 w := by
    intro s' hs'
    obtain ⟨s, hs, rfl⟩ := List.mem_map.1 hs'
    exact (leafS_ok hr1 (hall s hs) (hargs1 s hs)).2
  have hc := h.calls R1 w hr1.inv hok (fun b hb => ⟨(hr1.rr b hb).1, (hr1.rr b hb).2.1⟩)
  rw [hden] at hc
  refine hc.mono ?_
  rintro e w' ⟨r, rfl, hpost, hrok, hevo, hinv⟩
  exact ⟨r, _, _, rfl, hk r hpost, hrok, hr1.called hevo hinv, rfl⟩
theorem wcall_leaf {ds : List (Option Tmp)} {rest : List Oper} {dst : Option Tmp} {n : Nat} {env : List (Nat × SV)} {own own' : List Own} {k : St → Prop} {f : FuncId} {args args' : List SV} {post : SV → Prop} (ids : List SV) (hown : frz own ids = own') (hl : args.all (leafOk own') = true)
    (h : Contract F P f args' post) (ha : args.map (leafS own') = args') (hk : ∀ r, post r → WO P F ds rest (St.put ⟨n, env, own'⟩ dst r) k) : WCall P F ds rest dst ⟨n, env, own⟩ f (some args) k := by
  unfold WCall
  subst ha
  exact callK_leaf (st := ⟨n, env, own⟩) (k := fun st' => WO P F ds rest st' k) ids hown hl h hk
end
end Eng
end Go.Proofs.YtpkmnggfomllhaaDoor
