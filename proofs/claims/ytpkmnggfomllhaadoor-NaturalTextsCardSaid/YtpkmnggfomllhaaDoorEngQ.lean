/- The evaluator, part Q: maps of the call's own: keys are ints or structs of ints, values are ints. -/
import Derived.Test.YtpkmnggfomllhaaDoorEngH
import Derived.MapKept
set_option linter.unusedSimpArgs false
set_option linter.unusedVariables false
namespace Go.Proofs.YtpkmnggfomllhaaDoor
namespace Eng
variable {P : Program} {F : Frm} {st : St} {k : St → Prop} {dst : Option Tmp}
/-! ### Kinds of the cells of a key -/
def kkF (P : Program) (g : TypeId → Option (List IntKind)) : Nat → List Field → Option (List IntKind)
  | _, [] => some []
  | off, f :: fs => match g f.type with
    | some ks => if f.name ≠ "_" ∧ f.offset = off ∧ tsz P f.type = ks.length ∧ 0 < ks.length then (kkF P g (off + ks.length) fs).map (ks ++ ·) else none
    | none => none
def kk (P : Program) : Nat → TypeId → Option (List IntKind)
  | 0, _ => none
  | d + 1, t => match P.underlying t with
    | some (.int k) => some [k]
    | some (.struct fs) => if P.stoodInHeld t = false then kkF P (kk P d) 0 fs.toList else none
    | _ => none
def scal (P : Program) (t : TypeId) : Bool := match P.underlying t with | some (.int _) => true | _ => false
theorem ints_append {k1 k2 : List IntKind} {l : List Int} (h : l.length = (k1 ++ k2).length) : ints (k1 ++ k2) l = ints k1 (l.take k1.length) ++ ints k2 (l.drop k1.length) := by
  simp only [List.length_append] at h
  unfold ints
  conv => lhs; rw [← List.take_append_drop k1.length l]
  exact List.zipWith_append (by simp; omega)
theorem chunk {pre xs ys : List Value} {off n : Nat} (hp : pre.length = off) (hx : xs.length = n) : ((pre ++ (xs ++ ys)).drop off).take n = xs := by
  rw [← hp, List.drop_left, ← hx, List.take_left]
theorem ints_length {ks : List IntKind} {l : List Int} (h : l.length = ks.length) : (ints ks l).length = ks.length := by simp [ints, h]
theorem eqF {d : Nat} (IH : ∀ t ks, kk P d t = some ks → ∀ a b : List Int, a.length = ks.length → b.length = ks.length → eqAt P d t (ints ks a) (ints ks b) = some (decide (a = b))) :
    ∀ (fs : List Field) (off : Nat) (ks : List IntKind), kkF P (kk P d) off fs = some ks → ∀ (pre pre' : List Value) (a b : List Int), pre.length = off → pre'.length = off → a.length = ks.length → b.length = ks.length →
      (fs.all fun f => f.name != "_" && decide (0 < tsz P f.type)) = true ∧ ∃ rs, fs.mapM (fun f => eqAt P d f.type (((pre ++ ints ks a).drop f.offset).take (tsz P f.type)) (((pre' ++ ints ks b).drop f.offset).take (tsz P f.type))) = some rs ∧ rs.all id = decide (a = b)
  | [], off, ks, h, pre, pre', a, b, hp, hp', ha, hb => by
    simp only [kkF, Option.some.injEq] at h
    subst h
    have ea : a = [] := List.length_eq_zero_iff.1 ha
    have eb : b = [] := List.length_eq_zero_iff.1 hb
    subst ea; subst eb
    exact ⟨rfl, [], rfl, rfl⟩
  | f :: fs, off, ks, h, pre, pre', a, b, hp, hp', ha, hb => by
    unfold kkF at h
    split at h
    · rename_i k1 hk1
      split at h
      · rename_i hc
        obtain ⟨hn, hof, hsz, h0⟩ := hc
        simp only [Option.map_eq_some_iff] at h
        obtain ⟨k2, h2, rfl⟩ := h
        have hla := ha; have hlb := hb
        simp only [List.length_append] at ha hb
        have a1 : (a.take k1.length).length = k1.length := by simp; omega
        have a2 : (a.drop k1.length).length = k2.length := by simp; omega
        have b1 : (b.take k1.length).length = k1.length := by simp; omega
        have b2 : (b.drop k1.length).length = k2.length := by simp; omega
        obtain ⟨hall, rs, hm, hr⟩ := eqF IH fs (off + k1.length) k2 h2 (pre ++ ints k1 (a.take k1.length)) (pre' ++ ints k1 (b.take k1.length)) (a.drop k1.length) (b.drop k1.length) (by simp [hp, ints_length a1]) (by simp [hp', ints_length b1]) a2 b2
        refine ⟨by simp only [List.all_cons, hall, hsz, bne_iff_ne, ne_eq, hn, not_false_eq_true, h0, decide_true, Bool.and_true, Bool.and_eq_true, and_true], decide (a.take k1.length = b.take k1.length) :: rs, ?_, ?_⟩
        · rw [List.mapM_cons]
          have e1 : eqAt P d f.type (((pre ++ ints (k1 ++ k2) a).drop f.offset).take (tsz P f.type)) (((pre' ++ ints (k1 ++ k2) b).drop f.offset).take (tsz P f.type)) = some (decide (a.take k1.length = b.take k1.length)) := by
            rw [ints_append hla, ints_append hlb, hof, hsz, chunk hp (ints_length a1), chunk hp' (ints_length b1)]
            exact IH _ _ hk1 _ _ a1 b1
          rw [e1]
          simp only [List.append_assoc, ← ints_append hla, ← ints_append hlb] at hm
          simp [hm]
        · simp only [List.all_cons, id, hr, ← Bool.decide_and]
          congr 1
          apply propext
          constructor
          · rintro ⟨e1, e2⟩
            rw [← List.take_append_drop k1.length a, ← List.take_append_drop k1.length b, e1, e2]
          · rintro rfl; exact ⟨rfl, rfl⟩
      · cases h
    · cases h
theorem eq_kk : ∀ (d : Nat) (t : TypeId) (ks : List IntKind), kk P d t = some ks → ∀ a b : List Int, a.length = ks.length → b.length = ks.length → eqAt P d t (ints ks a) (ints ks b) = some (decide (a = b))
  | 0, t, ks, h => by cases h
  | d + 1, t, ks, h => by
    intro a b ha hb
    unfold kk at h
    unfold eqAt
    split at h
    · rename_i q hu
      simp only [Option.some.injEq] at h
      subst h
      obtain ⟨x, rfl⟩ := List.length_eq_one_iff.1 ha
      obtain ⟨y, rfl⟩ := List.length_eq_one_iff.1 hb
      simp [hu, ints, Bool.beq_eq_decide_eq]
    · rename_i fs hu
      split at h
      · rename_i hst
        obtain ⟨hall, rs, hm, hr⟩ := eqF (eq_kk d) fs.toList 0 ks h [] [] a b rfl rfl ha hb
        simp only [List.nil_append] at hm
        simp only [hu]
        rw [if_pos ⟨hall, hst⟩, hm]
        simp [hr]
      · cases h
    · cases h
theorem check_kk (em : Bool) : ∀ (d : Nat) (t : TypeId) (ks : List IntKind), kk P d t = some ks → ∀ a : List Int, a.length = ks.length → ∀ (n : Nat) (w : World), (Instr.checkKey em (n + d) t (whole P t (ints ks a))).run P w = .ok () w
  | 0, t, ks, h => by cases h
  | d + 1, t, ks, h => by
    intro a ha n w
    have hwhole := h
    unfold kk at h
    rw [show n + (d + 1) = (n + d) + 1 from rfl, Instr.checkKey]
    split at h
    · rename_i q hu
      simp only [Option.some.injEq] at h
      subst h
      obtain ⟨x, rfl⟩ := List.length_eq_one_iff.1 ha
      simp [run_underlying hu, whole, hu, ints, Result.andThen]
    · rename_i fs hu
      split at h
      · rename_i hst
        simp only [Sem.run_bind, run_underlying hu, Result.andThen_ok, whole, hu]
        rw [← Array.forIn_toList]
        obtain ⟨cs, hcs⟩ : ∃ cs, cs = ints ks a := ⟨_, rfl⟩
        have hinv : cs = [] ++ ints ks a := by simpa using hcs
        rw [← hcs]
        have hp : ([] : List Value).length = 0 := rfl
        clear hcs hwhole
        generalize ([] : List Value) = pre at hinv hp
        generalize (0 : Nat) = off at hp h
        generalize fs.toList = L at h ⊢
        induction L generalizing off ks a pre with
        | nil => simp
        | cons f L ih =>
          unfold kkF at h
          split at h
          · rename_i k1 hk1
            split at h
            · rename_i hc
              obtain ⟨hn, hof, hsz, h0⟩ := hc
              simp only [Option.map_eq_some_iff] at h
              obtain ⟨k2, h2, rfl⟩ := h
              have hla := ha
              simp only [List.length_append] at ha
              have a1 : (a.take k1.length).length = k1.length := by simp; omega
              have a2 : (a.drop k1.length).length = k2.length := by simp; omega
              have hin := ih k2 (a.drop k1.length) a2 (pre ++ ints k1 (a.take k1.length)) (by rw [hinv, ints_append hla, List.append_assoc]) (off + k1.length) (by simp [hp, ints_length a1]) h2
              have hcell : (cs.drop f.offset).take (tsz P f.type) = ints k1 (a.take k1.length) := by
                rw [hinv, ints_append hla, hof, hsz, chunk hp (ints_length a1)]
              have heq := eq_kk d f.type k1 hk1 _ _ a1 a1
              have hpart := part_whole (P := P) (t := f.type) (d := d) (off := f.offset) (xs := cs) (zs := ints k1 (a.take k1.length)) (by omega) (.inl (by rw [hcell]; exact heq)) w
              rw [hcell] at hpart
              have hck := check_kk em d f.type k1 hk1 _ a1 n w
              simp only [List.forIn_cons, Sem.run_bind, hn, ne_eq, not_false_eq_true, if_true, Result.andThen_ok, hpart, hck, Sem.run_pure]
              exact hin
            · cases h
          · cases h
      · cases h
    · cases h
theorem keyV_whole {t : TypeId} {d : Nat} {ks : List IntKind} (h : kk P d t = some ks) (l : List Int) : keyV (scal P t) ks l = whole P t (ints ks l) := by
  cases d with
  | zero => cases h
  | succ d =>
    unfold kk at h
    unfold keyV scal whole
    split at h
    · rename_i q hu; simp [hu, undef]
    · rename_i fs hu; simp [hu]
    · cases h
theorem equal_keys {t : TypeId} {ks : List IntKind} (h : kk P 20 t = some ks) {a b : List Int} (ha : a.length = ks.length) (hb : b.length = ks.length) (w : World) :
    (Op.equal t (keyV (scal P t) ks a) (keyV (scal P t) ks b)).run P w = .ok (decide (a = b)) w := by
  rw [keyV_whole h, keyV_whole h]
  exact run_eqAt 20 t _ _ _ (eq_kk 20 t ks h a b ha hb) 9980 w
def findI (l : List Int) : List (List Int × Int) → Nat → Option (Nat × Int)
  | [], _ => none
  | p :: ps, i => if l = p.1 then some (i, p.2) else findI l ps (i + 1)
theorem findI_val (l : List Int) : ∀ (L : List (List Int × Int)) (i : Nat), (findI l L i).map (·.2) = findV l L
  | [], _ => rfl
  | p :: ps, i => by
    unfold findI findV
    split
    · rfl
    · exact findI_val l ps (i + 1)
theorem findI_at {l : List Int} : ∀ {L : List (List Int × Int)} {i j : Nat} {x : Int}, findI l L i = some (j, x) → ∃ q, j = i + q ∧ L[q]? = some (l, x)
  | [], _, _, _, h => by cases h
  | p :: ps, i, j, x, h => by
    unfold findI at h
    split at h
    · rename_i e
      simp only [Option.some.injEq, Prod.mk.injEq] at h
      obtain ⟨rfl, rfl⟩ := h
      exact ⟨0, rfl, by simp [e]⟩
    · obtain ⟨q, rfl, hq⟩ := findI_at h
      exact ⟨q + 1, by omega, by simpa using hq⟩
theorem findAsking_mp {t : TypeId} {ks : List IntKind} {vk : IntKind} (h : kk P 20 t = some ks) {l : List Int} (hl : l.length = ks.length) (w : World) :
    ∀ (es : List MapEntry) (L : List (List Int × Int)) (i : Nat), es.map (fun e => (e.key, e.val)) = L.map (fun p => (keyV (scal P t) ks p.1, Value.int vk p.2)) → (∀ p ∈ L, p.1.length = ks.length) →
      (Instr.findAsking t (keyV (scal P t) ks l) es i).run P w = .ok ((findI l L i).map fun p => (p.1, Value.int vk p.2)) w
  | [], [], i, _, _ => by simp [Instr.findAsking, findI]
  | [], _ :: _, i, h1, _ => by simp at h1
  | _ :: _, [], i, h1, _ => by simp at h1
  | e :: es, p :: L, i, h1, h2 => by
    simp only [List.map_cons, List.cons.injEq, Prod.mk.injEq] at h1
    obtain ⟨⟨hk, hv⟩, h1⟩ := h1
    have he := equal_keys h hl (h2 p (by simp)) w
    have hr := findAsking_mp h hl w es L (i + 1) h1 (fun p hp => h2 p (by simp [hp]))
    unfold findI
    by_cases hlp : l = p.1
    · have he' := he
      rw [hlp] at he'
      simp [Instr.findAsking, hk, hv, he', hlp]
    · simp [Instr.findAsking, hk, he, hlp, hr]
theorem findKey_mp {t : TypeId} {ks : List IntKind} {vk : IntKind} (h : kk P 20 t = some ks) {l : List Int} (hl : l.length = ks.length) (w : World) (es : List MapEntry) (L : List (List Int × Int))
    (h1 : es.map (fun e => (e.key, e.val)) = L.map (fun p => (keyV (scal P t) ks p.1, Value.int vk p.2))) (h2 : ∀ p ∈ L, p.1.length = ks.length) :
    (Instr.findKey t (keyV (scal P t) ks l) es).run P w = .ok ((findI l L 0).map fun p => (p.1, Value.int vk p.2)) w := by
  have hask := findAsking_mp h hl w es L 0 h1 h2
  have hkk := h
  unfold kk at hkk
  split at hkk
  · rename_i q hu
    simp only [Option.some.injEq] at hkk
    subst hkk
    have now : ∀ (es : List MapEntry) (L : List (List Int × Int)) (i : Nat), es.map (fun e => (e.key, e.val)) = L.map (fun p => (keyV (scal P t) [q] p.1, Value.int vk p.2)) → (∀ p ∈ L, p.1.length = 1) →
        Instr.findNow (.int q) (keyV (scal P t) [q] l) es i = some ((findI l L i).map fun p => (p.1, Value.int vk p.2)) := by
      intro es
      have hs : scal P t = true := by simp [scal, hu]
      obtain ⟨x, rfl⟩ := List.length_eq_one_iff.1 hl
      induction es with
      | nil => intro L i h1 _; cases L <;> simp_all [Instr.findNow, findI]
      | cons e es ih =>
        intro L i h1 h2
        cases L with
        | nil => simp at h1
        | cons p L =>
          simp only [List.map_cons, List.cons.injEq, Prod.mk.injEq] at h1
          obtain ⟨⟨hk, hv⟩, h1⟩ := h1
          obtain ⟨y, hy⟩ := List.length_eq_one_iff.1 (h2 p (by simp))
          have := ih L (i + 1) h1 (fun p hp => h2 p (by simp [hp]))
          unfold findI Instr.findNow
          rw [hk, hy]
          simp only [keyV, hs, if_true, ints, List.zipWith_cons_cons, List.zipWith_nil_left, List.headD_cons, Instr.sameNow] at this ⊢
          by_cases hxy : x = y
          · simp [hxy, hv]
          · have hb : (x == y) = false := by simpa using hxy
            simp only [hb]
            simpa [hxy] using this
    simp [Instr.findKey, run_underlying hu, Result.andThen, now es L 0 h1 h2]
  · rename_i fs hu
    have hsc : scal P t = false := by simp [scal, hu]
    cases es with
    | nil =>
      cases L with
      | nil => simp [Instr.findKey, run_underlying hu, Result.andThen, Instr.findNow, findI]
      | cons p L => simp at h1
    | cons e es =>
      have hn : Instr.findNow (.struct fs) (keyV (scal P t) ks l) (e :: es) 0 = none := by
        simp [Instr.findNow, Instr.sameNow]
      simp [Instr.findKey, run_underlying hu, Result.andThen, hn, hask]
  · cases hkk
theorem stays_mp {t : TypeId} {ks : List IntKind} (h : kk P 20 t = some ks) {l : List Int} (hl : l.length = ks.length) (w : World) : (Instr.keyThatStays (keyV (scal P t) ks l) (keyV (scal P t) ks l)).run P w = .ok (keyV (scal P t) ks l) w := by
  have hs : Instr.sameBits 10000 (keyV (scal P t) ks l) (keyV (scal P t) ks l) = true := by
    have one : ∀ (n : Nat) (ks : List IntKind) (l : List Int), ((ints ks l).zip (ints ks l)).all (fun (x, y) => Instr.sameBits n x y) = true := by
      intro n ks
      induction ks with
      | nil => intro l; rfl
      | cons q ks ih =>
        intro l
        cases l with
        | nil => rfl
        | cons x l =>
          have := ih l
          simp only [ints, List.zipWith_cons_cons, List.zip_cons_cons, List.all_cons, Bool.and_eq_true] at this ⊢
          exact ⟨by cases n <;> simp [Instr.sameBits], this⟩
    unfold kk at h
    split at h
    · rename_i q hu
      simp only [Option.some.injEq] at h
      subst h
      obtain ⟨x, rfl⟩ := List.length_eq_one_iff.1 hl
      simp [keyV, scal, hu, ints, Instr.sameBits]
    · rename_i fs hu
      have hsc : scal P t = false := by simp [scal, hu]
      unfold keyV
      rw [hsc, show (10000 : Nat) = 9999 + 1 from rfl]
      simp only [Bool.false_eq_true, if_false]
      rw [Instr.sameBits]
      simpa using one 9999 ks l
    · cases h
  simp [Instr.keyThatStays, hs]
/-! ### The type of a map -/
def zInt (P : Program) (e : TypeId) : Option IntKind := match (P.info? e).bind (·.zero) with | some (.int k 0) => some k | _ => none
theorem zInt_run {e : TypeId} {vk : IntKind} (h : zInt P e = some vk) (w : World) : (zeroValue e).run P w = .ok (.int vk 0) w := by
  unfold zInt at h
  split at h
  · rename_i k hz
    simp only [Option.some.injEq] at h
    subst h
    simp only [Option.bind_eq_some_iff] at hz
    obtain ⟨i, hi, hiz⟩ := hz
    simp [zeroValue, typeInfo, hi, hiz]
  · cases h
def mapT (P : Program) (t : TypeId) : Option (Bool × List IntKind × IntKind) := match P.underlying t with
  | some (.map k e) => (match zInt P e, kk P 20 k with | some vk, some ks => some (scal P k, ks, vk) | _, _ => none)
  | _ => none
theorem mapT_ok {t : TypeId} {sc : Bool} {ks : List IntKind} {vk : IntKind} (h : mapT P t = some (sc, ks, vk)) : ∃ k e, P.underlying t = some (.map k e) ∧ zInt P e = some vk ∧ kk P 20 k = some ks ∧ sc = scal P k := by
  unfold mapT at h
  split at h
  · rename_i k e hu
    split at h
    · rename_i vk' ks' h1 h2
      simp only [Option.some.injEq, Prod.mk.injEq] at h
      obtain ⟨rfl, rfl, rfl⟩ := h
      exact ⟨k, e, hu, h1, h2, rfl⟩
    · cases h
  · cases h
def keyIs : List SV → Option (List IntKind × List Int)
  | [] => some ([], [])
  | .i k n :: l => (keyIs l).map fun p => (k :: p.1, n :: p.2)
  | _ :: _ => none
def keyS (sc : Bool) : SV → Option (List IntKind × List Int)
  | .i k n => if sc = true then some ([k], [n]) else none
  | .agg n rd => if sc = false then keyIs ((List.range n).map rd) else none
  | _ => none
theorem keyIs_ok : ∀ {l : List SV} {ks : List IntKind} {ns : List Int}, keyIs l = some (ks, ns) → l.map SV.den = ints ks ns ∧ ns.length = ks.length
  | [], ks, ns, h => by simp only [keyIs, Option.some.injEq, Prod.mk.injEq] at h; obtain ⟨rfl, rfl⟩ := h; exact ⟨rfl, rfl⟩
  | s :: l, ks, ns, h => by
    unfold keyIs at h
    split at h
    · cases ‹_ :: _ = []›
    · rename_i k n l' he
      simp only [List.cons.injEq] at he
      obtain ⟨rfl, rfl⟩ := he
      simp only [Option.map_eq_some_iff] at h
      obtain ⟨⟨ks', ns'⟩, h1, h2⟩ := h
      simp only [Prod.mk.injEq] at h2
      obtain ⟨rfl, rfl⟩ := h2
      obtain ⟨g1, g2⟩ := keyIs_ok h1
      exact ⟨by simp [g1, SV.den, ints], by simp [g2]⟩
    · cases h
theorem keyS_ok {sc : Bool} {s : SV} {ks : List IntKind} {ns : List Int} (h : keyS sc s = some (ks, ns)) : s.den = keyV sc ks ns ∧ ns.length = ks.length := by
  unfold keyS at h
  split at h
  · split at h
    · rename_i hs
      simp only [Option.some.injEq, Prod.mk.injEq] at h
      obtain ⟨rfl, rfl⟩ := h
      exact ⟨by simp [SV.den, keyV, hs, ints], rfl⟩
    · cases h
  · split at h
    · rename_i hs
      obtain ⟨g1, g2⟩ := keyIs_ok h
      exact ⟨by simp only [SV.den, keyV, hs, Bool.false_eq_true, if_false, ← g1, List.map_map]; rfl, g2⟩
    · cases h
  · cases h
/-! ### A lookup -/
def lookS (vk : IntKind) (x : Option Int) (c : Bool) : SV := match c, x with
  | true, some v => .tup 2 fun j => [SV.i vk v, .tt].getD j default
  | true, none => .tup 2 fun j => [SV.i vk 0, .ff].getD j default
  | false, some v => .i vk v
  | false, none => .i vk 0
theorem run_lookup_mp {R : Nat → Prop} {B : Nat} {w : World} {t blk : Nat} {sc : Bool} {ks : List IntKind} {vk : IntKind} {f : List Int → Option Int} (ht : mapT P t = some (sc, ks, vk)) (ho : (Own.mp blk sc ks vk f).ok R B w) {l : List Int} (hl : l.length = ks.length) (c : Bool) :
    (Instr.lookup t (.map (some blk)) (keyV sc ks l) c).run P w = .ok (lookS vk (f l) c).den w := by
  obtain ⟨k, e, hu, hz, hk, rfl⟩ := mapT_ok ht
  obtain ⟨_, _, es, clock, hb, L, h1, h2, h3⟩ := ho
  have hck := check_kk (P := P) es.isEmpty 20 k ks hk l hl 9980 w
  rw [← keyV_whole hk] at hck
  have hck' : (Instr.checkKey es.isEmpty 10000 k (keyV (scal P k) ks l)).run P w = .ok () w := hck
  have hfk := findKey_mp (P := P) (vk := vk) hk hl w es.toList L h1 h2
  have hf := h3 l hl
  rw [← findI_val l L 0] at hf
  cases hfi : findI l L 0 with
  | none =>
    rw [hfi] at hfk hf
    simp only [Option.map_none] at hfk hf
    rw [hf]
    cases c <;> simp [Instr.lookup, run_underlying hu, MapKept.run_getObj_map hb, hck', hfk, zInt_run hz, lookS, SV.den, List.range_succ]
  | some p =>
    rw [hfi] at hfk hf
    simp only [Option.map_some] at hfk hf
    rw [hf]
    cases c <;> simp [Instr.lookup, run_underlying hu, MapKept.run_getObj_map hb, hck', hfk, lookS, SV.den, List.range_succ]
def vLookup (P : Program) (st : St) (t : TypeId) (m x : Operand) (c : Bool) (K : SV → Prop) : Prop :=
  match ev st.env m, ev st.env x, mapT P t with
  | some (.mp id blk), some s, some (sc, ks, vk) => (match st.own[id]?, keyS sc s with
    | some (.mp blk' sc' ks' vk' f), some (ks2, l) => (blk' = blk ∧ sc' = sc ∧ ks' = ks ∧ vk' = vk ∧ ks2 = ks) ∧ K (lookS vk (f l) c)
    | _, _ => False)
  | _, _, _ => False
theorem lookS_ok (vk : IntKind) (x : Option Int) (c : Bool) (R : Nat → Prop) (w : World) : (lookS vk x c).ok R w := by
  unfold lookS
  split
  · intro j hj
    match j, hj with
    | 0, _ => trivial
    | 1, _ => trivial
  · intro j hj
    match j, hj with
    | 0, _ => trivial
    | 1, _ => trivial
  · trivial
  · trivial
theorem vLookup_ok {K : SV → Prop} {t : TypeId} {m x : Operand} {c : Bool} (h : vLookup P st t m x c K) : Vok P st (.lookup t m x c) K := by
  unfold vLookup at h
  split at h
  · rename_i id blk s sc ks vk hm hx ht
    split at h
    · rename_i blk' sc' ks' vk' f ks2 l ho hs
      obtain ⟨⟨rfl, rfl, rfl, rfl, rfl⟩, h⟩ := h
      refine ⟨_, h, fun R B a w he hown => ⟨lookS_ok _ _ _ _ _, yone rfl fun o ho' => ?_⟩⟩
      obtain ⟨g1, g2⟩ := keyS_ok hs
      have hr := run_lookup_mp ht (hown _ _ ho) g2 c
      simp [execOp, ho', (ev_ok he hm).1, (ev_ok he hx).1, SV.den, g1, hr]
    · exact h.elim
  · exact h.elim
/-! ### A map is made -/
def sMakeMap (P : Program) (st : St) (dst : Option Tmp) (t : TypeId) (k : St → Prop) : Prop :=
  match mapT P t with
  | some (sc, ks, vk) => ∀ blk : Nat, k (St.put { st with own := st.own ++ [Own.mp blk sc ks vk fun _ => none] } dst (.mp st.own.length blk))
  | none => False
theorem sMakeMap_good {t : TypeId} (hd : dstOk st dst) (h : sMakeMap P st dst t k) : Good P F (.makeMap t none) dst st k := by
  unfold sMakeMap at h
  split at h
  · rename_i sc ks vk ht
    rintro R0 w0 a w o next Q ho rfl ⟨ob, R, hr⟩ hk
    have hex : (execOp a.eval o).run P w = .ok (.value (.map (some w.heap.size))) (w.alloc (.map #[] 0)) := by
      unfold execOp; rw [ho]
      simp [Instr.makeMap]
    unfold Oper.wp
    rw [hex]
    have hg : w.grownBy (w.alloc (.map #[] 0)) none := World.grownBy_alloc w _ none
    have hnew := hr.newRow (o := .mp w.heap.size sc ks vk fun _ => none) hg (fun b hb => by simpa [Own.blk] using hb.symm)
      ⟨hr.obw, fun hc => by have := (hr.rr _ hc).1; omega, #[], 0, (MapKept.heap_alloc w _).1, [], rfl, (fun p hp => by cases hp), fun l _ => rfl⟩
    exact hk _ _ _ (h w.heap.size) ⟨ob, R, hnew.put (s := .mp st.own.length w.heap.size) (dstOk_of hd) trivial⟩
  · exact h.elim
/-! ### An entry is written -/
def fPut (f : List Int → Option Int) (l : List Int) (v : Int) : List Int → Option Int := fun q => if q = l then some v else f q
def sMapUpd (P : Program) (st : St) (dst : Option Tmp) (t : TypeId) (m x v : Operand) (k : St → Prop) : Prop :=
  match ev st.env m, ev st.env x, ev st.env v, mapT P t with
  | some (.mp id blk), some s, some (.i vk2 y), some (sc, ks, vk) => (match st.own[id]?, keyS sc s with
    | some (.mp blk' sc' ks' vk' f), some (ks2, l) => (blk' = blk ∧ sc' = sc ∧ ks' = ks ∧ vk' = vk ∧ ks2 = ks ∧ vk2 = vk) ∧ k (St.put { st with own := st.own.set id (Own.mp blk' sc' ks' vk' (fPut f l y)) } dst (.v undef))
    | _, _ => False)
  | _, _, _, _ => False
theorem findV_set {l : List Int} {y : Int} : ∀ {L : List (List Int × Int)} {j : Nat} {x : Int} {i : Nat}, findI l L i = some (i + j, x) → ∀ q, findV q (L.modify j fun p => (p.1, y)) = if q = l then some y else findV q L
  | [], _, _, _, h, _ => by cases h
  | p :: ps, j, x, i, h, q => by
    unfold findI at h
    split at h
    · rename_i e
      simp only [Option.some.injEq, Prod.mk.injEq] at h
      obtain rfl : j = 0 := by omega
      simp only [List.modify_zero_cons, findV, ← e]
      by_cases hq : q = l <;> simp [hq]
    · rename_i hne
      obtain ⟨r, hr, _⟩ := findI_at h
      obtain ⟨j', rfl⟩ : ∃ j', j = j' + 1 := ⟨j - 1, by omega⟩
      have ih := findV_set (L := ps) (j := j') (x := x) (i := i + 1) (y := y) (by rw [show i + 1 + j' = i + (j' + 1) by omega]; exact h) q
      simp only [List.modify_succ_cons, findV, ih]
      by_cases hq : q = p.1
      · have : q ≠ l := fun e => hne (by rw [← e, hq])
        simp [hq] at this ⊢
        simp [this]
      · simp [hq]
theorem findV_push {l : List Int} {y : Int} : ∀ {L : List (List Int × Int)}, findV l L = none → ∀ q, findV q (L ++ [(l, y)]) = if q = l then some y else findV q L
  | [], _, q => by simp [findV]
  | p :: ps, h, q => by
    unfold findV at h
    split at h
    · cases h
    · rename_i hne
      have ih := findV_push (L := ps) (y := y) h q
      simp only [List.cons_append, findV, ih]
      by_cases hq : q = p.1
      · have : q ≠ l := fun e => hne (by rw [← e, hq])
        simp [hq] at this ⊢
        simp [this]
      · simp [hq]
theorem run_update_mp {R : Nat → Prop} {B : Nat} {w : World} {t blk : Nat} {sc : Bool} {ks : List IntKind} {vk : IntKind} {f : List Int → Option Int} (ht : mapT P t = some (sc, ks, vk)) (ho : (Own.mp blk sc ks vk f).ok R B w) {l : List Int} (hl : l.length = ks.length) (y : Int) :
    ∃ es clock, (Instr.mapUpdate t (.map (some blk)) (keyV sc ks l) (.int vk y)).run P w = .ok () { w with heap := w.heap.setIfInBounds blk (.map es clock) } ∧ (Own.mp blk sc ks vk (fPut f l y)).ok R B { w with heap := w.heap.setIfInBounds blk (.map es clock) } := by
  obtain ⟨k, e, hu, hz, hk, rfl⟩ := mapT_ok ht
  obtain ⟨hB, hR, es, clock, hb, L, h1, h2, h3⟩ := ho
  have hck := check_kk (P := P) false 20 k ks hk l hl 9980 w
  rw [← keyV_whole hk] at hck
  have hck' : (Instr.checkKey false 10000 k (keyV (scal P k) ks l)).run P w = .ok () w := hck
  have hfk := findKey_mp (P := P) (vk := vk) hk hl w es.toList L h1 h2
  have hf := h3 l hl
  rw [← findI_val l L 0] at hf
  cases hfi : findI l L 0 with
  | none =>
    rw [hfi] at hfk hf
    simp only [Option.map_none] at hfk hf
    refine ⟨es.push ⟨keyV (scal P k) ks l, .int vk y, clock⟩, clock + 1, ?_, hB, hR, _, _, (MapKept.heap_set hb).1, L ++ [(l, y)], ?_, ?_, fun q hq => ?_⟩
    · simp [Instr.mapUpdate, run_underlying hu, MapKept.run_getObj_map hb, hck', hfk, MapKept.run_setObj_map _ hb, Result.andThen]
    · simp [h1]
    · intro p hp
      rcases List.mem_append.1 hp with hp | hp
      · exact h2 p hp
      · simp only [List.mem_singleton] at hp; subst hp; exact hl
    · rw [findV_push (by rw [← findI_val l L 0, hfi]; rfl) q]
      unfold fPut
      rw [h3 q hq]
  | some p =>
    obtain ⟨j, x⟩ := p
    rw [hfi] at hfk hf
    simp only [Option.map_some] at hfk hf
    obtain ⟨j', hj', hL⟩ := findI_at hfi
    rw [Nat.zero_add] at hj'
    subst hj'
    have hej : ∃ e0, es.toList[j]? = some e0 ∧ e0.key = keyV (scal P k) ks l := by
      have : (es.toList.map (fun e => (e.key, e.val)))[j]? = some (keyV (scal P k) ks l, Value.int vk x) := by rw [h1]; simp [hL]
      simp only [List.getElem?_map, Option.map_eq_some_iff, Prod.mk.injEq] at this
      obtain ⟨e0, g1, g2, _⟩ := this
      exact ⟨e0, g1, g2⟩
    obtain ⟨e0, hg, hkey⟩ := hej
    have hga : es[j]? = some e0 := by simpa using hg
    refine ⟨es.modify j fun e => { e with key := keyV (scal P k) ks l, val := .int vk y }, clock, ?_, hB, hR, _, _, (MapKept.heap_set hb).1, L.modify j (fun p => (p.1, y)), ?_, ?_, fun q hq => ?_⟩
    · simp [Instr.mapUpdate, run_underlying hu, MapKept.run_getObj_map hb, hck', hfk, hga, hkey, stays_mp hk hl, MapKept.run_setObj_map _ hb, Result.andThen]
    · apply List.ext_getElem?
      intro q
      have hq := congrArg (·[q]?) h1
      simp only [List.getElem?_map] at hq
      simp only [Array.toList_modify, List.getElem?_map, List.getElem?_modify]
      by_cases hqj : j = q
      · subst hqj
        rw [hg, hL]
        simp
      · simpa [hqj] using hq
    · intro p hp
      obtain ⟨q, hq⟩ := List.getElem?_of_mem hp
      rw [List.getElem?_modify] at hq
      cases hLq : L[q]? with
      | none => rw [hLq] at hq; cases hq
      | some p0 =>
        rw [hLq] at hq
        have hm := h2 p0 (List.mem_of_getElem? hLq)
        by_cases hqj : j = q
        · simp [hqj] at hq; subst hq; exact hm
        · simp [hqj] at hq; subst hq; exact hm
    · rw [findV_set (i := 0) (j := j) (x := x) (by rw [Nat.zero_add]; exact hfi) q]
      unfold fPut
      rw [h3 q hq]
theorem sMapUpd_good {t : TypeId} {m x v : Operand} (hd : dstOk st dst) (h : sMapUpd P st dst t m x v k) : Good P F (.mapUpdate t m x v) dst st k := by
  unfold sMapUpd at h
  split at h
  · rename_i id blk s vk2 y sc ks vk hm hx hv ht
    split at h
    · rename_i blk' sc' ks' vk' f ks2 l hid hs
      obtain ⟨⟨rfl, rfl, rfl, rfl, rfl, rfl⟩, h⟩ := h
      rintro R0 w0 a w o next Q ho rfl ⟨ob, R, hr⟩ hk
      obtain ⟨g1, g2⟩ := keyS_ok hs
      have hown := hr.own _ _ hid
      obtain ⟨es, clock, hrun, hnew⟩ := run_update_mp ht hown g2 y
      have hex : (execOp a.eval o).run P w = .ok .skip { w with heap := w.heap.setIfInBounds blk' (.map es clock) } := by
        unfold execOp; rw [ho]
        simp [(ev_ok hr.env hm).1, (ev_ok hr.env hx).1, (ev_ok hr.env hv).1, SV.den, g1, hrun]
      unfold Oper.wp
      rw [hex]
      obtain ⟨_, _, es0, clock0, hb0, _⟩ := hown
      have hset := hr.setOwn (o' := .mp blk' sc' ks2 vk2 (fPut f l y)) (g := blk') hid rfl (fun b hb => by simpa [Own.blk] using hb.symm) (w' := { w with heap := w.heap.setIfInBounds blk' (.map es clock) }) rfl rfl rfl (by simp) (fun b _ hne => (MapKept.heap_set hb0).2 b hne) hnew
      exact hk _ _ _ h ⟨ob, R, hset.put (s := .v undef) (dstOk_of hd) trivial⟩
    · exact h.elim
  · exact h.elim
end Eng
end Go.Proofs.YtpkmnggfomllhaaDoor
