/- The evaluator, part B: operations that only yield a value, and that they do. -/
import Derived.Test.YtpkmnggfomllhaaDoorEngA
set_option linter.unusedSimpArgs false
set_option linter.unusedVariables false
namespace Go.Proofs.YtpkmnggfomllhaaDoor
namespace Eng
def cellsOf (len sz : Nat) (rd : Nat → Nat → SV) : List Value := (List.range (len * sz)).map fun q => (rd (q / sz) (q % sz)).den
def ints (ks : List IntKind) (l : List Int) : List Value := List.zipWith Value.int ks l
def keyV (sc : Bool) (ks : List IntKind) (l : List Int) : Value := if sc = true then (ints ks l).headD undef else .agg (ints ks l).toArray
def findV (l : List Int) : List (List Int × Int) → Option Int
  | [] => none
  | p :: ps => if l = p.1 then some p.2 else findV l ps
def mapIs (sc : Bool) (ks : List IntKind) (vk : IntKind) (f : List Int → Option Int) (es : List MapEntry) : Prop :=
  ∃ L : List (List Int × Int), es.map (fun e => (e.key, e.val)) = L.map (fun p => (keyV sc ks p.1, Value.int vk p.2)) ∧ (∀ p ∈ L, p.1.length = ks.length) ∧ ∀ l, l.length = ks.length → f l = findV l L
def Own.ok (R : Nat → Prop) (B : Nat) (w : World) : Own → Prop
  | .gone => True
  | .box blk ty cs => B ≤ blk ∧ ¬ R blk ∧ w.heap[blk]? = some (.cells (cs.map SV.den).toArray ty (0, 0)) ∧ ∀ c ∈ cs, c.den.oneCell' = true ∧ c.ok R w
  | .row a e len cap sz rd => w.ownsRow B e sz (.slice a len cap) len (cellsOf len sz rd) ∧ (∀ g, a = some g → ¬ R g.block) ∧ ∀ i j, i < len → j < sz → (rd i j).den.oneCell' = true ∧ (rd i j).ok R w
  | .frz a len cap sz rd => (SV.sl a len cap sz rd).ok R w
  | .res blk p => B ≤ blk ∧ ¬ R blk ∧ blk < w.heap.size ∧ ∀ w' : World, (∀ b, (R b ∨ b = blk) → w'.heap[b]? = w.heap[b]?) → p w'
  | .mp blk sc ks vk f => B ≤ blk ∧ ¬ R blk ∧ ∃ es clock, w.heap[blk]? = some (.map es clock) ∧ mapIs sc ks vk f es.toList
def OwnsOk (R : Nat → Prop) (B : Nat) (own : List Own) (w : World) : Prop := ∀ (id : Nat) (o : Own), own[id]? = some o → o.ok R B w
def Yields (P : Program) (w : World) (a : Act) (op : Op) (v : Value) : Prop := ∀ o : Oper, o.op = op → (execOp a.eval o).run P w = .ok (.value v) w
def wless : Op → Bool
  | .move _ => true
  | .assign _ => true
  | .pick _ _ _ => true
  | .binOp _ _ _ _ _ => true
  | .unOp _ _ _ => true
  | .extract _ _ => true
  | .fieldAddr _ _ _ => true
  | .indexAddr _ _ _ => true
  | .nilCheck _ => true
  | .index _ _ _ => true
  | .build _ _ => true
  | .call { callee := .builtin .len, args := _, argTypes := _ } => true
  | _ => false
def YieldsA (P : Program) (w : World) (a : Act) (op : Op) (v : Value) : Prop := Yields P w a op v ∧ (wless op = true → ∀ w', Yields P w' a op v)
theorem yall {P : Program} {w : World} {a : Act} {op : Op} {v : Value} (h : ∀ w', Yields P w' a op v) : YieldsA P w a op v := ⟨h w, fun _ => h⟩
theorem yone {P : Program} {w : World} {a : Act} {op : Op} {v : Value} (hn : wless op = false) (h : Yields P w a op v) : YieldsA P w a op v := ⟨h, fun h' => by rw [hn] at h'; cases h'⟩
def Vok (P : Program) (st : St) (op : Op) (K : SV → Prop) : Prop :=
  ∃ s, K s ∧ ∀ R B a w, EnvOk R st.env a w → OwnsOk R B st.own w → s.ok R w ∧ YieldsA P w a op s.den
def evs (env : List (Nat × SV)) : List Operand → Option (List SV)
  | [] => some []
  | x :: xs => match ev env x, evs env xs with
    | some s, some l => some (s :: l)
    | _, _ => none
theorem evs_ok {R : Nat → Prop} {env : List (Nat × SV)} {a : Act} {w : World} (h : EnvOk R env a w) : ∀ (xs : List Operand) (l : List SV), evs env xs = some l → xs.map a.eval = l.map SV.den ∧ ∀ s ∈ l, s.ok R w
  | [], l, he => by simp only [evs, Option.some.injEq] at he; subst he; simp
  | x :: xs, l, he => by
    unfold evs at he
    split at he
    · rename_i s l' hs hl
      simp only [Option.some.injEq] at he
      subst he
      obtain ⟨h1, h2⟩ := evs_ok h xs l' hl
      have h3 := ev_ok h hs
      exact ⟨by simp [h1, h3.1], fun c hc => (List.mem_cons.1 hc).elim (fun e => e ▸ h3.2) (h2 c)⟩
    · cases he
def toB : SV → Option Bool
  | .tt => some true
  | .ff => some false
  | .b x => some x
  | _ => none
theorem toB_den {s : SV} {x : Bool} (h : toB s = some x) : s.den = .bool x := by cases s <;> simp_all [toB, SV.den]
def asRead (own : List Own) : SV → Option (Option Addr × Nat × Nat × Nat × (Nat → Nat → SV))
  | .sl a len cap sz rd => some (a, len, cap, sz, rd)
  | .os id a len cap => match own[id]? with
    | some (.frz a' len' cap' sz rd) => if a' = a ∧ len' = len ∧ cap' = cap then some (a', len', cap', sz, rd) else none
    | _ => none
  | _ => none
def ibin (op : BinOp) (k : IntKind) (x y : Int) (K : SV → Prop) : Prop :=
  match op with
  | .add => K (.i k (k.wrap (x + y)))
  | .sub => K (.i k (k.wrap (x - y)))
  | .mul => K (.i k (k.wrap (x * y)))
  | .quo => y ≠ 0 ∧ K (.i k (k.wrap (x.tdiv y)))
  | .rem => y ≠ 0 ∧ K (.i k (x.tmod y))
  | .and => K (.i k (bits .and k x y))
  | .or => K (.i k (bits .or k x y))
  | .xor => K (.i k (bits .xor k x y))
  | .andNot => K (.i k (bits .andNot k x y))
  | .eql => K (.b (x == y))
  | .neq => K (.b (x != y))
  | .lss => K (.b (decide (x < y)))
  | .leq => K (.b (decide (x ≤ y)))
  | .gtr => K (.b (decide (y < x)))
  | .geq => K (.b (decide (y ≤ x)))
  | _ => False
def eqAt (P : Program) : Nat → TypeId → List Value → List Value → Option Bool
  | 0, _, _, _ => none
  | d + 1, t, xs, ys =>
    match P.underlying t, xs, ys with
    | some .bool, [.bool a], [.bool b] => some (a == b)
    | some (.int _), [.int k a], [.int k' b] => if k = k' then some (a == b) else none
    | some .string, [.string a], [.string b] => some (a.toList == b.toList)
    | some (.struct fs), xs, ys => if (fs.toList.all fun f => f.name != "_" && decide (0 < tsz P f.type)) = true ∧ P.stoodInHeld t = false then
        (fs.toList.mapM fun f => eqAt P d f.type ((xs.drop f.offset).take (tsz P f.type)) ((ys.drop f.offset).take (tsz P f.type))).map (·.all id) else none
    | _, _, _ => none
def whole (P : Program) (t : TypeId) (xs : List Value) : Value := match P.underlying t with | some (.struct _) => .agg xs.toArray | _ => xs.headD (.tuple #[])
theorem part_whole {P : Program} {t : TypeId} {d off : Nat} {xs : List Value} {zs : List Value} {r : Bool} (hs : 0 < tsz P t) (h : eqAt P d t ((xs.drop off).take (tsz P t)) zs = some r ∨ eqAt P d t zs ((xs.drop off).take (tsz P t)) = some r) (w : World) :
    (part t xs.toArray off).run P w = .ok (whole P t ((xs.drop off).take (tsz P t))) w := by
  have leaf : (isAgg t).run P w = .ok false w → (∃ a, (xs.drop off).take (tsz P t) = [a]) → (∀ fs, P.underlying t ≠ some (.struct fs)) → (part t xs.toArray off).run P w = .ok (whole P t ((xs.drop off).take (tsz P t))) w := by
    rintro hp ⟨a, ha⟩ hn
    have hx : xs.toArray[off]? = some a := getElem?_of_chunk (xs := xs.toArray) (by simpa using ha)
    rw [ha]
    unfold part whole
    rw [Sem.run_bind, hp, Result.andThen_ok]
    simp only [Bool.false_eq_true, if_false, hx]
    rfl
  cases d with
  | zero => rcases h with h | h <;> simp [eqAt] at h
  | succ d =>
    unfold eqAt at h
    have one : ∀ {cs : List Value}, (∃ a, cs = [a]) → ∃ a, cs = [a] := fun h => h
    cases hu : P.underlying t with
    | none => rcases h with h | h <;> simp [hu] at h
    | some kd =>
      cases kd
      case bool =>
        refine leaf (by simp [isAgg, run_underlying hu]) ?_ (fun fs => by rw [hu]; simp)
        rcases h with h | h <;> simp only [hu] at h <;> split at h <;> first | (rename_i h1 h2; simp_all; done) | simp_all
      case int q =>
        refine leaf (by simp [isAgg, run_underlying hu]) ?_ (fun fs => by rw [hu]; simp)
        rcases h with h | h <;> simp only [hu] at h <;> split at h <;> first | (rename_i h1 h2; simp_all; done) | simp_all
      case string =>
        refine leaf (by simp [isAgg, run_underlying hu]) ?_ (fun fs => by rw [hu]; simp)
        rcases h with h | h <;> simp only [hu] at h <;> split at h <;> first | (rename_i h1 h2; simp_all; done) | simp_all
      case struct fs =>
        unfold part whole
        have h1 : (isAgg t).run P w = .ok true w := by simp [isAgg, run_underlying hu]
        rw [Sem.run_bind, h1, Result.andThen_ok]
        simp only [if_true, Sem.run_bind, run_sizeOf hs, Result.andThen_ok, Sem.run_pure, hu]
        congr 2
        simp [List.extract]
      all_goals (rcases h with h | h <;> simp [hu] at h)
theorem run_eqFields_at {P : Program} (dd d : Nat) (IH : ∀ t xs ys r, eqAt P d t xs ys = some r → ∀ w, (Op.equalIn dd t (whole P t xs) (whole P t ys)).run P w = .ok r w) (xs ys : List Value) (w : World) : ∀ (fs : List Field) (rs : List Bool),
    (fs.all fun f => f.name != "_" && decide (0 < tsz P f.type)) = true → fs.mapM (fun f => eqAt P d f.type ((xs.drop f.offset).take (tsz P f.type)) ((ys.drop f.offset).take (tsz P f.type))) = some rs →
    (Op.eqFields dd xs.toArray ys.toArray fs).run P w = .ok (rs.all id) w
  | [], rs, _, h => by
    simp at h
    subst h
    simp [Op.eqFields]
  | f :: fs, rs, ha, h => by
    rw [List.mapM_cons] at h
    simp only [bind, Option.bind_eq_some_iff, pure, Option.some.injEq] at h
    obtain ⟨r, h1, rs', h2, rfl⟩ := h
    simp only [List.all_cons, Bool.and_eq_true, bne_iff_ne, ne_eq, decide_eq_true_eq] at ha
    obtain ⟨⟨hn, hs⟩, ha⟩ := ha
    have hr := run_eqFields_at dd d IH xs ys w fs rs' ha h2
    simp only [Op.eqFields, hn, ne_eq, not_false_eq_true, if_true, Sem.run_bind, part_whole hs (.inl h1) w, part_whole hs (.inr h1) w, Result.andThen_ok, IH _ _ _ _ h1 w, List.all_cons, id]
    cases r
    · simp
    · simpa using hr
theorem run_eqAt {P : Program} : ∀ (d : Nat) (t : TypeId) (xs ys : List Value) (r : Bool), eqAt P d t xs ys = some r → ∀ (e : Nat) (w : World), (Op.equalIn (e + d) t (whole P t xs) (whole P t ys)).run P w = .ok r w
  | 0, _, _, _, _, h => by simp [eqAt] at h
  | d + 1, t, xs, ys, r, h => by
    intro e w
    unfold eqAt at h
    rw [show e + (d + 1) = (e + d) + 1 from rfl]
    cases hu : P.underlying t with
    | none => simp [hu] at h
    | some kd =>
      cases kd
      case bool =>
        simp only [hu] at h
        split at h <;> first | (rename_i h1; cases h1) | skip
        all_goals first | (simp only [Option.some.injEq] at h; subst h; simp_all [whole, Op.equalIn, run_underlying hu]; done) | simp_all
      case int q =>
        simp only [hu] at h
        split at h <;> first | (rename_i h1; cases h1) | skip
        all_goals first
          | (simp only [reduceCtorEq] at h; done)
          | (split at h
             · rename_i hk; subst hk; simp only [Option.some.injEq] at h; subst h; simp_all [whole, Op.equalIn, run_underlying hu]
             · cases h)
          | simp_all
      case string =>
        simp only [hu] at h
        split at h <;> first | (rename_i h1; cases h1) | skip
        all_goals first | (simp only [Option.some.injEq] at h; subst h; simp_all [whole, Op.equalIn, run_underlying hu, beq_toListBytes]; done) | simp_all
      case struct fs =>
        simp only [hu] at h
        split at h
        · rename_i hc
          simp only [Option.map_eq_some_iff] at h
          obtain ⟨rs, h1, rfl⟩ := h
          have hfs : P.fieldsOf t = fs := by simp [Program.fieldsOf, hu]
          simp only [whole, hu]
          rw [run_equalIn_struct w (e + d) t xs.toArray ys.toArray (by rw [hfs]; exact hu) hc.2, hfs]
          exact run_eqFields_at (e + d) d (fun t xs ys r h w => run_eqAt d t xs ys r h e w) xs ys w _ _ hc.1 h1
        · cases h
      all_goals (simp [hu] at h)
def aggT (P : Program) (t : TypeId) : Bool := !P.eqGuardType P.depth t && match P.underlying t with | some (.struct _) => true | _ => false
def aggEq (P : Program) (t : TypeId) (n : Nat) (f : Nat → SV) (m : Nat) (g : Nat → SV) : Option Bool :=
  if aggT P t = true then
    eqAt P 20 t ((List.range n).map fun j => (f j).den) ((List.range m).map fun j => (g j).den)
  else none
def strB (op : BinOp) (a b : ByteArray) : Option SV :=
  match op with
  | .add => if ((a.size + b.size : Nat) : Int) ≤ IntKind.i64.max then some (.v (.string (a ++ b))) else none
  | .eql => some (.b (a.toList == b.toList))
  | .neq => some (.b (!(a.toList == b.toList)))
  | .lss => some (.b (Op.bytesLess a.toList b.toList))
  | .leq => some (.b (Op.bytesLess a.toList b.toList || a.toList == b.toList))
  | .gtr => some (.b (!(Op.bytesLess a.toList b.toList || a.toList == b.toList)))
  | .geq => some (.b (!Op.bytesLess a.toList b.toList))
  | _ => none
def eqB (op : BinOp) (r : Option Bool) : Option SV :=
  match op, r with
  | .eql, some r => some (.b r)
  | .neq, some r => some (.b (!r))
  | _, _ => none
def wideB (P : Program) (xt : TypeId) (op : BinOp) (s t : SV) : Option SV :=
  match s, t with
  | .agg n f, .agg m g => eqB op (aggEq P xt n f m g)
  | .v (.string a), .v (.string b) => strB op a b
  | .sl a _ _ _ _, .sl none 0 0 _ _ => (match tk P xt with | .slice _ => eqB op (some a.isNone) | _ => none)
  | .os _ a _ _, .sl none 0 0 _ _ => (match tk P xt with | .slice _ => eqB op (some a.isNone) | _ => none)
  | s, t => match toB s, toB t, tk P xt with
    | some p, some q, .bool => (match op with
      | .eql => some (.b (p == q))
      | .neq => some (.b (p != q))
      | _ => none)
    | _, _, _ => none
def vBin (P : Program) (st : St) (xt : TypeId) (op : BinOp) (x y : Operand) (K : SV → Prop) : Prop :=
  match ev st.env x, ev st.env y with
  | some (.i k p), some (.i k' q) =>
    match op with
    | .shl => 0 ≤ q ∧ K (.i k (k.wrap (p * 2 ^ (min q.toNat k.bits))))
    | .shr => 0 ≤ q ∧ K (.i k (p.fdiv (2 ^ (min q.toNat k.bits))))
    | _ => k = k' ∧ ibin op k p q K
  | some s, some t => (match wideB P xt op s t with | some r => K r | none => False)
  | _, _ => False
theorem tk_bool {P : Program} {t : TypeId} (h : tk P t = .bool) : P.underlying t = some .bool := by
  unfold tk at h; split at h <;> simp_all
theorem run_equal_bool {P : Program} {t : TypeId} (hu : P.underlying t = some .bool) (p q : Bool) (w : World) : (Op.equal t (.bool p) (.bool q)).run P w = .ok (p == q) w := by
  unfold Op.equal
  show (Op.equalIn (9999 + 1) t (.bool p) (.bool q)).run P w = _
  rw [Op.equalIn]
  simp [run_underlying hu]
theorem run_equal_nil {P : Program} {t e : TypeId} (hu : P.underlying t = some (.slice e)) (a : Option Addr) (len cap : Nat) (w : World) : (Op.equal t (.slice a len cap) (.slice none 0 0)).run P w = .ok a.isNone w := by
  unfold Op.equal
  show (Op.equalIn (9999 + 1) t (.slice a len cap) (.slice none 0 0)).run P w = _
  rw [Op.equalIn]
  cases a <;> simp [run_underlying hu]
theorem vBin_ok {P : Program} {st : St} {op : BinOp} {xt yt : TypeId} {x y : Operand} {K : SV → Prop} (h : vBin P st xt op x y K) : Vok P st (.binOp op xt x y yt) K := by
  unfold vBin at h
  split at h
  · rename_i k p k' q hx hy
    have key : ∀ s : SV, K s → (∀ R w, s.ok R w) → (∀ w, (do eqGuard op xt x y (.int k p) (.int k' q); binOp op xt (.int k p) (.int k' q) : Sem Value).run P w = .ok s.den w) → Vok P st (.binOp op xt x y yt) K := by
      intro s hk hs hr
      refine ⟨s, hk, fun R B a w he _ => ⟨hs _ _, yall fun w o ho => ?_⟩⟩
      have h1 := (ev_ok he hx).1
      have h2 := (ev_ok he hy).1
      have hr' := hr w
      unfold execOp
      rw [ho]
      simp only [h1, h2, SV.den] at hr' ⊢
      rw [Sem.run_bind, hr']
      rfl
    split at h
    · obtain ⟨h0, h⟩ := h
      refine key _ h (fun _ _ => trivial) (fun w => ?_)
      simp [eqGuard, binOp, Op.shift, show ¬ q < 0 by omega, SV.den]
    · obtain ⟨h0, h⟩ := h
      refine key _ h (fun _ _ => trivial) (fun w => ?_)
      simp [eqGuard, binOp, Op.shift, show ¬ q < 0 by omega, SV.den]
    · obtain ⟨rfl, h⟩ := h
      unfold ibin at h
      split at h <;> first
        | exact h.elim
        | (obtain ⟨hn, h⟩ := h
           refine key _ h (fun _ _ => trivial) (fun w => ?_)
           simp [eqGuard, binOp, Op.intDiv, hn, SV.den])
        | (refine key _ h (fun _ _ => trivial) (fun w => ?_)
           simp [eqGuard, binOp, Op.intArith, Op.intBits, Op.intCmp, bits, SV.den])
  · rename_i s t _ hx hy
    split at h
    · rename_i r hr
      have key : (∀ R w, r.ok R w) → (∀ w, (do eqGuard op xt x y s.den t.den; binOp op xt s.den t.den : Sem Value).run P w = .ok r.den w) → Vok P st (.binOp op xt x y yt) K := by
        intro hs hrun
        refine ⟨r, h, fun R B a w he _ => ⟨hs _ _, yall fun w o ho => ?_⟩⟩
        have h1 := (ev_ok he hx).1
        have h2 := (ev_ok he hy).1
        have hr' := hrun w
        unfold execOp
        rw [ho]
        simp only [h1, h2] at hr' ⊢
        rw [Sem.run_bind, hr']
        rfl
      unfold wideB at hr
      split at hr
      · rename_i n f m g _
        unfold eqB at hr
        have run : ∀ b, aggEq P xt n f m g = some b → ∀ w, (Op.equalIn 10000 xt (SV.agg n f).den (SV.agg m g).den).run P w = .ok b w ∧ (eqGuard op xt x y (SV.agg n f).den (SV.agg m g).den).run P w = .ok () w := by
          intro b hb w
          unfold aggEq at hb
          split at hb
          · rename_i hk
            simp only [aggT, Bool.and_eq_true, Bool.not_eq_true'] at hk
            obtain ⟨hk2, hk3⟩ := hk
            obtain ⟨fs, hu⟩ : ∃ fs, P.underlying xt = some (.struct fs) := by
              cases hu : P.underlying xt with
              | none => simp [hu] at hk3
              | some kd => cases kd <;> simp [hu] at hk3 ⊢
            have hwh : ∀ l : List Value, whole P xt l = .agg l.toArray := fun l => by
              unfold whole
              rw [hu]
            have h1 := run_eqAt 20 xt _ _ b hb (10000 - 20) w
            rw [hwh, hwh] at h1
            refine ⟨h1, ?_⟩
            simp only [SV.den]
            exact run_eqGuard_agg w op xt x y _ _ hk2
          · cases hb
        split at hr
        · rename_i b hb
          cases hr
          refine key (fun _ _ => trivial) fun w => ?_
          obtain ⟨h1, h2⟩ := run b hb w
          simp only [SV.den] at h1 h2 ⊢
          rw [Sem.run_bind, h2, Result.andThen_ok, run_eql_struct, h1]
          rfl
        · rename_i b hb
          cases hr
          refine key (fun _ _ => trivial) fun w => ?_
          obtain ⟨h1, h2⟩ := run b hb w
          simp only [SV.den] at h1 h2 ⊢
          rw [Sem.run_bind, h2, Result.andThen_ok, run_neq_struct, h1]
          rfl
        · cases hr
      · rename_i a b _
        unfold strB at hr
        split at hr <;> first
          | (split at hr <;> first
              | (cases hr
                 rename_i hsz
                 refine key (fun _ _ => trivial) fun w => ?_
                 have e : IntKind.i64.max = 9223372036854775807 := by decide
                 rw [e] at hsz
                 simp [eqGuard, binOp, Op.stringOp, SV.den]
                 omega)
              | cases hr)
          | (cases hr
             refine key (fun _ _ => trivial) fun w => ?_
             simp [eqGuard, binOp, Op.stringOp, SV.den])
          | cases hr
      · rename_i a _ _ _ _ _
        split at hr
        · rename_i e ht
          have hu := tk_slice ht
          unfold eqB at hr
          split at hr
          · rename_i r hb
            cases hr; cases hb
            refine key (fun _ _ => trivial) fun w => ?_
            simp only [eqGuard, binOp, SV.den, Sem.run_bind, run_equal_nil hu]
            rfl
          · rename_i r hb
            cases hr; cases hb
            refine key (fun _ _ => trivial) fun w => ?_
            simp only [eqGuard, binOp, SV.den, Sem.run_bind, run_equal_nil hu]
            rfl
          · cases hr
        · cases hr
      · rename_i a _ _ _ _
        split at hr
        · rename_i e ht
          have hu := tk_slice ht
          unfold eqB at hr
          split at hr
          · rename_i r hb
            cases hr; cases hb
            refine key (fun _ _ => trivial) fun w => ?_
            simp only [eqGuard, binOp, SV.den, Sem.run_bind, run_equal_nil hu]
            rfl
          · rename_i r hb
            cases hr; cases hb
            refine key (fun _ _ => trivial) fun w => ?_
            simp only [eqGuard, binOp, SV.den, Sem.run_bind, run_equal_nil hu]
            rfl
          · cases hr
        · cases hr
      · split at hr
        · rename_i p q hp hq hb
          have hu := tk_bool hb
          rw [toB_den hp, toB_den hq] at key
          split at hr
          · cases hr
            refine key (fun _ _ => trivial) fun w => ?_
            simp only [eqGuard, binOp, Sem.run_bind, run_equal_bool hu]
            rfl
          · cases hr
            refine key (fun _ _ => trivial) fun w => ?_
            simp only [eqGuard, binOp, Sem.run_bind, run_equal_bool hu]
            rfl
          · cases hr
        · cases hr
    · exact h.elim
  · exact h.elim
end Eng
end Go.Proofs.YtpkmnggfomllhaaDoor
