/- The evaluator, part I: the same operations as tables of data; a region's operations in order; calls. -/
import Derived.Test.YtpkmnggfomllhaaDoorEngQ
import Derived.Laws.BytesString
set_option linter.unusedSimpArgs false
set_option linter.unusedVariables false
namespace Go.Proofs.YtpkmnggfomllhaaDoor
namespace Eng
inductive VR where
  | val (s : SV)
  | cond (p : Prop) (r : VR)
  | fail
def VR.holds (K : SV → Prop) : VR → Prop
  | .val s => K s
  | .cond p r => p ∧ r.holds K
  | .fail => False
def rOpt : Option SV → VR
  | some s => .val s
  | none => .fail
def rPick (c x y : Option SV) : VR :=
  match c with
  | some .tt => rOpt x
  | some .ff => rOpt y
  | some (.b q) => (match x, y with
    | some s, some t => (match toB s, toB t with | some p, some r => .val (.b (bif q then p else r)) | _, _ => .fail)
    | _, _ => .fail)
  | _ => .fail
def rIbin (op : BinOp) (k : IntKind) (x y : Int) : VR :=
  match op with
  | .add => .val (.i k (k.wrap (x + y)))
  | .sub => .val (.i k (k.wrap (x - y)))
  | .mul => .val (.i k (k.wrap (x * y)))
  | .quo => .cond (y ≠ 0) (.val (.i k (k.wrap (x.tdiv y))))
  | .rem => .cond (y ≠ 0) (.val (.i k (x.tmod y)))
  | .and => .val (.i k (bits .and k x y))
  | .or => .val (.i k (bits .or k x y))
  | .xor => .val (.i k (bits .xor k x y))
  | .andNot => .val (.i k (bits .andNot k x y))
  | .eql => .val (.b (x == y))
  | .neq => .val (.b (x != y))
  | .lss => .val (.b (decide (x < y)))
  | .leq => .val (.b (decide (x ≤ y)))
  | .gtr => .val (.b (decide (y < x)))
  | .geq => .val (.b (decide (y ≤ x)))
  | _ => .fail
def rBin (P : Program) (xt : TypeId) (op : BinOp) (x y : Option SV) : VR :=
  match x, y with
  | some (.i k p), some (.i k' q) =>
    (match op with
    | .shl => .cond (0 ≤ q) (.val (.i k (k.wrap (p * 2 ^ (min q.toNat k.bits)))))
    | .shr => .cond (0 ≤ q) (.val (.i k (p.fdiv (2 ^ (min q.toNat k.bits)))))
    | _ => .cond (k = k') (rIbin op k p q))
  | some s, some t => rOpt (wideB P xt op s t)
  | _, _ => .fail
def nilC : Operand → Bool
  | .const .nilIface => true
  | _ => false
theorem nilC_tmp (t : Tmp) : nilC (.tmp t) = false := rfl
theorem nilC_int (k : IntKind) (n : Int) : nilC (.const (.int k n)) = false := rfl
theorem nilC_bool (b : Bool) : nilC (.const (.bool b)) = false := rfl
theorem nilC_string (b : ByteArray) : nilC (.const (.string b)) = false := rfl
theorem nilC_slice (a : Option Addr) (l c : Nat) : nilC (.const (.slice a l c)) = false := rfl
theorem nilC_nil : nilC (.const .nilIface) = true := rfl
theorem nilC_ptr (a : Option Addr) : nilC (.const (.pointer a)) = false := rfl
theorem nilC_map (a : Option Nat) : nilC (.const (.map a)) = false := rfl
theorem nilC_func : nilC (.const .nilFunc) = false := rfl
theorem nilC_global (g : Nat) : nilC (.global g) = false := rfl
theorem nilC_fn (f : FuncId) : nilC (.func f) = false := rfl
def isIf (P : Program) (t : TypeId) : Bool := match P.underlying t with | some (.interface _) => true | _ => false
def rNil (P : Program) (t : TypeId) (op : BinOp) (x : Option SV) : VR :=
  match x with
  | some (.v .nilIface) => .cond (isIf P t = true) (rOpt (eqB op (some true)))
  | some (.v (.iface _ _)) => .cond (isIf P t = true) (rOpt (eqB op (some false)))
  | _ => .fail
def rBinN (P : Program) (t : TypeId) (op : BinOp) (x y : Option SV) (q : Bool) : VR :=
  match q with
  | true => rNil P t op x
  | false => rBin P t op x y
theorem run_equal_iface {P : Program} {t : TypeId} (h : isIf P t = true) (x : Value) (b : Bool) (hx : (x = .nilIface ∧ b = true) ∨ (∃ u y, x = .iface u y) ∧ b = false) (w : World) : (Op.equal t x .nilIface).run P w = .ok b w := by
  unfold isIf at h
  split at h
  · rename_i m hu
    unfold Op.equal
    show (Op.equalIn (9999 + 1) t x .nilIface).run P w = _
    rw [Op.equalIn]
    rcases hx with ⟨rfl, rfl⟩ | ⟨⟨u, y, rfl⟩, rfl⟩ <;> simp [run_underlying hu]
  · cases h
theorem nilC_eq {y : Operand} (h : nilC y = true) : y = .const .nilIface := by
  unfold nilC at h; split at h
  · rfl
  · cases h
theorem vNil_ok {P : Program} {st : St} {op : BinOp} {xt yt : TypeId} {x y : Operand} {K : SV → Prop} (hq : nilC y = true) (h : (rNil P xt op (ev st.env x)).holds K) : Vok P st (.binOp op xt x y yt) K := by
  obtain rfl := nilC_eq hq
  have key : ∀ (vx : Value) (b : Bool), ev st.env x = some (.v vx) → isIf P xt = true → ((vx = .nilIface ∧ b = true) ∨ (∃ u z, vx = .iface u z) ∧ b = false) → (rOpt (eqB op (some b))).holds K → Vok P st (.binOp op xt x (.const .nilIface) yt) K := by
    intro vx b hx hi hv hh
    have hg : ∀ w, (eqGuard op xt x (.const .nilIface) vx .nilIface).run P w = .ok () w := by
      intro w
      rcases hv with ⟨rfl, rfl⟩ | ⟨⟨u, z, rfl⟩, rfl⟩ <;> simp [eqGuard] <;> split <;> rfl
    have hc : ∀ a : Act, a.eval (.const .nilIface) = .nilIface := fun _ => rfl
    have e1 : ∀ w, (binOp .eql xt vx .nilIface).run P w = .ok (.bool b) w := by
      intro w
      rcases hv with ⟨rfl, rfl⟩ | ⟨⟨u, z, rfl⟩, rfl⟩
      · simp only [binOp, Sem.run_bind, run_equal_iface hi _ _ (.inl ⟨rfl, rfl⟩)]; rfl
      · simp only [binOp, Sem.run_bind, run_equal_iface hi _ _ (.inr ⟨⟨_, _, rfl⟩, rfl⟩)]; rfl
    have e2 : ∀ w, (binOp .neq xt vx .nilIface).run P w = .ok (.bool (!b)) w := by
      intro w
      rcases hv with ⟨rfl, rfl⟩ | ⟨⟨u, z, rfl⟩, rfl⟩
      · simp only [binOp, Sem.run_bind, run_equal_iface hi _ _ (.inl ⟨rfl, rfl⟩)]; rfl
      · simp only [binOp, Sem.run_bind, run_equal_iface hi _ _ (.inr ⟨⟨_, _, rfl⟩, rfl⟩)]; rfl
    unfold eqB at hh
    split at hh
    · rename_i r hr
      cases hr
      refine ⟨_, hh, fun R B a w he _ => ⟨trivial, yall fun w o ho => ?_⟩⟩
      have h1 := (ev_ok he hx).1
      unfold execOp
      rw [ho]
      simp only [h1, hc, SV.den, Sem.run_bind, hg, Result.andThen_ok, e1, Sem.run_pure]
    · rename_i r hr
      cases hr
      refine ⟨_, hh, fun R B a w he _ => ⟨trivial, yall fun w o ho => ?_⟩⟩
      have h1 := (ev_ok he hx).1
      unfold execOp
      rw [ho]
      simp only [h1, hc, SV.den, Sem.run_bind, hg, Result.andThen_ok, e2, Sem.run_pure]
    · exact hh.elim
  unfold rNil at h
  split at h
  · rename_i hx
    exact key _ true hx h.1 (.inl ⟨rfl, rfl⟩) h.2
  · rename_i u z hx
    exact key _ false hx h.1 (.inr ⟨⟨_, _, rfl⟩, rfl⟩) h.2
  · exact h.elim
def rUn (op : UnOp) (x : Option SV) : VR :=
  match op, x with
  | .not, some .tt => .val .ff
  | .not, some .ff => .val .tt
  | .not, some (.b q) => .val (.b (!q))
  | .neg, some (.i k n) => .val (.i k (k.wrap (0 - n)))
  | .xor, some (.i k n) => .val (.i k (flipB k n))
  | _, _ => .fail
def bytesOf (ns : List Int) : ByteArray := ns.foldl (fun r n => r.push (UInt8.ofNat n.toNat)) ByteArray.empty
def intOf : SV → Int
  | .i _ n => n
  | _ => 0
def strRd (r : Option (Option Addr × Nat × Nat × Nat × (Nat → Nat → SV))) : VR :=
  match r with
  | some (_, len, _, sz, rd) => .cond (sz = 1 ∧ ∀ i, i < len → ∃ m, rd i 0 = .i .u8 m) (.val (.v (.string (bytesOf ((List.range len).map fun i => intOf (rd i 0))))))
  | none => .fail
def rConv (P : Program) (own : List Own) (src dst : TK) (x : Option SV) : VR :=
  match src, dst, x with
  | .slice e, .str, some s => .cond (tk P e = .int .u8) (strRd (asAny own s))
  | .int _, .int k, some (.i _ n) => .val (.i k (k.wrap n))
  | .str, .str, some (.v (.string s)) => .val (.v (.string s))
  | _, _, _ => .fail
def rExtract (x : Option SV) (ix : Nat) : VR :=
  match x with
  | some (.tup n rd) => .cond (ix < n) (.val (rd ix))
  | _ => .fail
def rFieldAddr (P : Program) (f : Option (Nat × TypeId)) (x : Option SV) : VR :=
  match f with
  | some (off, ft) => .cond (0 < tsz P ft) (match x with
    | some (.el a n rd) => .cond (off + tsz P ft ≤ n) (.val (.el (a.add off) (tsz P ft) (fun j => rd (off + j))))
    | some (.op id blk o) => .val (.op id blk (o + off))
    | some (.oe id blk o ix j) => .val (.oe id blk (o + off) ix (j + off))
    | _ => .fail)
  | none => .fail
def rIndexAddr (P : Program) (own : List Own) (t : TK) (x ix : Option SV) : VR :=
  match t, x, ix with
  | .slice e, some s, some (.i _ n) =>
    (match asRead own s with
    | some (a, len, _, sz, rd) => .cond (0 ≤ n ∧ n < (len : Int)) (.cond (tsz P e = sz ∧ 0 < sz) (.val (.el ((a.getD default).add (n.toNat * sz)) sz (fun j => rd n.toNat j))))
    | none => match s with
      | .os id a len cap => (match own[id]? with
        | some (.row a' _ len' cap' sz _) => .cond (a' = a ∧ len' = len ∧ cap' = cap) (.cond (0 ≤ n ∧ n < (len : Int)) (.cond (tsz P e = sz ∧ 0 < sz) (.val (.oe id (a.getD default).block (n.toNat * sz) n.toNat 0))))
        | _ => .fail)
      | .ow id a sz0 off len cap => (match own[id]? with
        | some (.row a' _ len' cap' sz _) => .cond (a' = a ∧ sz0 = sz ∧ len' = off + len ∧ cap' = off + cap) (.cond (0 ≤ n ∧ n < (len : Int)) (.cond (tsz P e = sz ∧ 0 < sz) (.val (.oe id (a.getD default).block ((off + n.toNat) * sz) (off + n.toNat) 0))))
        | _ => .fail)
      | _ => .fail)
  | .array len e, some (.op id blk o), some (.i _ n) => .cond (0 ≤ n ∧ n < (len : Int)) (.cond (0 < tsz P e) (.val (.op id blk (o + n.toNat * tsz P e))))
  | .array len e, some (.el a m rd), some (.i _ n) => .cond (0 ≤ n ∧ n < (len : Int)) (.cond (0 < tsz P e) (.cond (len * tsz P e ≤ m) (.val (.el (a.add (n.toNat * tsz P e)) (tsz P e) (fun j => rd (n.toNat * tsz P e + j))))))
  | _, _, _ => .fail
def rNilCheck (x : Option SV) : VR :=
  match x with
  | some (.op id blk o) => .val (.op id blk o)
  | some (.oe id blk o i j) => .val (.oe id blk o i j)
  | some (.el a n rd) => .val (.el a n rd)
  | some (.v (.pointer (some a))) => .val (.v (.pointer (some a)))
  | some (.fn f n rd) => .val (.fn f n rd)
  | _ => .fail
def rIndex (P : Program) (t : TK) (x ix : Option SV) : VR :=
  match t, x, ix with
  | .str, some (.v (.string s)), some (.i _ n) => .cond (0 ≤ n ∧ n < (s.size : Int)) (.val (.i .u8 (byteAt s n.toNat)))
  | .array len e, some (.agg m rd), some (.i _ n) => .cond (0 ≤ n ∧ n < (len : Int)) (match tplain P e with
    | true => .cond (0 < tsz P e ∧ n.toNat * tsz P e < m) (.val (rd (n.toNat * tsz P e)))
    | false => .cond (isAggT P e = true) (.cond (0 < tsz P e ∧ n.toNat * tsz P e + tsz P e ≤ m) (.val (.agg (tsz P e) fun j => rd (n.toNat * tsz P e + j)))))
  | _, _, _ => .fail
def rLoad (P : Program) (own : List Own) (t : TypeId) (x : Option SV) : VR :=
  match x with
  | some (.el _ n rd) => (match tplain P t with
    | true => .cond (0 < n) (.val (rd 0))
    | false => .cond (isAggT P t = true) (.cond (0 < tsz P t ∧ tsz P t ≤ n) (.val (.agg (tsz P t) rd))))
  | some (.op id blk o) => (match own[id]? with
    | some (.box blk' _ cs) => .cond (blk' = blk) (match tplain P t with
      | true => rOpt cs[o]?
      | false => .cond (isAggT P t = true) (.cond (0 < tsz P t ∧ o + tsz P t ≤ cs.length) (.val (.agg (tsz P t) (fun j => cs.getD (o + j) default)))))
    | _ => .fail)
  | some (.oe id blk o ix j) => (match own[id]? with
    | some (.row a _ len _ sz rd) => .cond ((a.getD default).block = blk ∧ ix * sz + j = o) (.cond (ix < len) (match tplain P t with
      | true => .cond (j < sz) (.val (rd ix j))
      | false => .cond (isAggT P t = true) (.cond (0 < tsz P t ∧ j + tsz P t ≤ sz) (.val (.agg (tsz P t) (fun q => rd ix (j + q)))))))
    | _ => .fail)
  | _ => .fail
def rField (P : Program) (f : Option (Nat × TypeId)) (x : Option SV) : VR :=
  match f, x with
  | some (off, ft), some (.agg n rd) => (match tplain P ft with
    | true => .cond (off < n) (.val (rd off))
    | false => .cond (isAggT P ft = true) (.cond (0 < tsz P ft ∧ off + tsz P ft ≤ n) (.val (.agg (tsz P ft) (fun j => rd (off + j))))))
  | _, _ => .fail
def rLen (t : TK) (x : Option SV) : VR :=
  match t, x with
  | .slice _, some (.sl _ len _ _ _) => .val (.i .i64 len)
  | .slice _, some (.os _ _ len _) => .val (.i .i64 len)
  | .slice _, some (.ow _ _ _ _ len _) => .val (.i .i64 len)
  | .str, some (.v (.string s)) => .val (.i .i64 s.size)
  | .array n _, some _ => .val (.i .i64 n)
  | _, _ => .fail
def rCap (t : TK) (x : Option SV) : VR :=
  match t, x with
  | .slice _, some (.sl _ _ cap _ _) => .val (.i .i64 cap)
  | .slice _, some (.os _ _ _ cap) => .val (.i .i64 cap)
  | _, _ => .fail
def rMax (x y : Option SV) : VR := match x, y with | some (.i k p), some (.i _ q) => .val (.i k (max p q)) | _, _ => .fail
def rMin (x y : Option SV) : VR := match x, y with | some (.i k p), some (.i _ q) => .val (.i k (min p q)) | _, _ => .fail
def rSlice (P : Program) (own : List Own) (env : List (Nat × SV)) (t : TK) (x : Option SV) (lo hi : Option Operand) : VR :=
  match t, x with
  | .slice e, some s =>
    (match asRead own s with
    | some (a, len, cap, sz, rd) => (match bound env lo 0, bound env hi len with
      | some l, some h => .cond (0 ≤ l ∧ l ≤ h ∧ h ≤ (len : Int)) (.cond (tsz P e = sz ∧ 0 < sz) (.val (.sl (if cap = l.toNat then a else a.map (·.add (l.toNat * sz))) (h.toNat - l.toNat) (cap - l.toNat) sz (fun i j => rd (l.toNat + i) j))))
      | _, _ => .fail)
    | none => .fail)
  | .str, some (.v (.string s)) => (match bound env lo 0, bound env hi s.size with
      | some l, some h => .cond (0 ≤ l ∧ l ≤ h ∧ h ≤ (s.size : Int)) (.val (.v (.string (s.extract l.toNat h.toNat))))
      | _, _ => .fail)
  | _, _ => .fail
def rBuild (P : Program) (t : TypeId) (l : Option (List SV)) : VR :=
  match l with
  | some l => .cond (fieldsFull P t = true ∧ 0 < tsz P t ∧ (tz P t ≠ [])) (.val (.agg l.length (fun j => l.getD j default)))
  | none => .fail
def rFunc (f : FuncId) (l : Option (List SV)) : VR := match l with | some l => .val (.fn f l.length fun j => l.getD j default) | none => .fail
theorem rFunc_ok {P : Program} {st : St} {K : SV → Prop} {f : FuncId} {caps : Array Operand} (h : (rFunc f (evs st.env caps.toList)).holds K) : Vok P st (.makeFunc (.func f) #[] caps) K := by
  unfold rFunc at h
  split at h
  · rename_i l hl
    refine ⟨_, h, fun R B a w he _ => ?_⟩
    obtain ⟨h1, h2⟩ := evs_ok he _ _ hl
    refine ⟨fun j hj => h2 _ (getD_mem hj), yone rfl fun o ho => ?_⟩
    have hc : caps.map a.eval = ((List.range l.length).map fun j => (l.getD j default).den).toArray := by
      apply Array.ext'
      rw [Array.toList_map, h1]
      apply List.ext_getElem?
      intro j
      simp only [List.getElem?_map]
      by_cases hj : j < l.length
      · simp [List.getElem?_range hj, List.getD, hj]
      · simp [List.getElem?_eq_none (Nat.le_of_not_lt hj), List.getElem?_eq_none (by simp; omega : (List.range l.length).length ≤ j)]
    simp [execOp, ho, Instr.makeFunc, hc, SV.den]
  · exact h.elim
def rLook (own : List Own) (mt : Option (Bool × List IntKind × IntKind)) (m s : Option SV) (c : Bool) : VR :=
  match m, s, mt with
  | some (.mp id blk), some s, some (sc, ks, vk) => (match own[id]?, keyS sc s with
    | some (.mp blk' sc' ks' vk' f), some (ks2, l) => .cond (blk' = blk ∧ sc' = sc ∧ ks' = ks ∧ vk' = vk ∧ ks2 = ks) (.val (lookS vk (f l) c))
    | _, _ => .fail)
  | _, _, _ => .fail
def rOp (P : Program) (st : St) : Op → VR
  | .move x => rOpt (ev st.env x)
  | .assign x => rOpt (ev st.env x)
  | .pick c x y => rPick (ev st.env c) (ev st.env x) (ev st.env y)
  | .binOp op t x y _ => rBinN P t op (ev st.env x) (ev st.env y) (nilC y)
  | .unOp op _ x => rUn op (ev st.env x)
  | .convert s d x => rConv P st.own (tk P s) (tk P d) (ev st.env x)
  | .extract x ix => rExtract (ev st.env x) ix
  | .fieldAddr t x f => rFieldAddr P (fieldOf P t f) (ev st.env x)
  | .field t x f => rField P (fieldOf P t f) (ev st.env x)
  | .indexAddr t x ix => rIndexAddr P st.own (tk P t) (ev st.env x) (ev st.env ix)
  | .load t x => rLoad P st.own t (ev st.env x)
  | .build t ps => rBuild P t (fillS (placesOf P t) (tz P t) (ps.toList.map fun p => (p.1, ev st.env p.2)))
  | .makeFunc (.func f) ⟨[]⟩ caps => rFunc f (evs st.env caps.toList)
  | .slice t x lo hi none => rSlice P st.own st.env (tk P t) (ev st.env x) lo hi
  | .call { callee := .builtin .len, args := ⟨[x]⟩, argTypes := ⟨[t]⟩ } => rLen (tk P t) (ev st.env x)
  | .call { callee := .builtin .cap, args := ⟨[x]⟩, argTypes := ⟨[t]⟩ } => rCap (tk P t) (ev st.env x)
  | .call { callee := .builtin .max, args := ⟨[x, y]⟩, argTypes := _ } => rMax (ev st.env x) (ev st.env y)
  | .call { callee := .builtin .min, args := ⟨[x, y]⟩, argTypes := _ } => rMin (ev st.env x) (ev st.env y)
  | .nilCheck x => rNilCheck (ev st.env x)
  | .index t x i => rIndex P (tk P t) (ev st.env x) (ev st.env i)
  | .lookup t m x c => rLook st.own (mapT P t) (ev st.env m) (ev st.env x) c
  | _ => .fail
theorem holds_opt {K : SV → Prop} {o : Option SV} : (rOpt o).holds K ↔ (match o with | some s => K s | none => False) := by cases o <;> rfl
theorem strRd_ok {P : Program} {st : St} {K : SV → Prop} {s d e : TypeId} {x : Operand} {sv : SV} (ht : tk P s = .slice e) (he : tk P e = .int .u8) (hds : tk P d = .str) (hx : ev st.env x = some sv) (h : (strRd (asAny st.own sv)).holds K) : Vok P st (.convert s d x) K := by
  unfold strRd at h
  split at h
  · rename_i ad len cap sz rd hany
    obtain ⟨⟨rfl, hns⟩, h⟩ := h
    refine ⟨_, h, fun R B a w henv hown => ⟨trivial, yone rfl fun o ho => ?_⟩⟩
    have hx' := ev_ok henv hx
    obtain ⟨hden, hcells, _⟩ := asAny_cells hany hown hx'.2
    have hce : cellsOf len 1 rd = ((List.range len).map fun i => intOf (rd i 0)).map (Value.int .u8) := by
      apply List.ext_getElem
      · simp [cellsOf]
      · intro j h1 h2
        have hj : j < len := by simpa using h2
        obtain ⟨m, hm⟩ := hns j hj
        simp [cellsOf, Nat.mod_one, hm, SV.den, intOf]
    have hrun : (Conv.bytesToString (.slice ad len cap)).run P w = .ok (.string (bytesOf ((List.range len).map fun i => intOf (rd i 0)))) w := by
      by_cases h0 : len = 0
      · subst h0
        cases ad with
        | none => simp [Conv.bytesToString, bytesOf]
        | some g => exact run_bytesToString w g 0 cap [] (by simp [loadCells, loadCellsFrom])
      · rcases hcells with hc | ⟨blk, off, rfl, hc⟩
        · exact absurd hc h0
        · refine run_bytesToString w _ _ cap _ ?_
          rw [← hce]
          have := run_loadCells_list (P := P) (w := w) ⟨blk, off, none⟩ (cellsOf len 1 rd) hc
          rwa [show (cellsOf len 1 rd).length = len by simp [cellsOf]] at this
    unfold execOp
    rw [ho]
    simp only [hx'.1, hden, Sem.run_bind, run_convert_bytes_string w s d e ad len cap (tk_slice ht) (tk_int he) (tk_str hds), hrun, Result.andThen_ok, Sem.run_pure, SV.den]
  · exact h.elim
theorem rOp_ok {P : Program} {st : St} {op : Op} {K : SV → Prop} (h : (rOp P st op).holds K) : Vok P st op K := by
  unfold rOp at h
  split at h
  · exact vMove_ok (holds_opt.1 h)
  · exact vAssign_ok (holds_opt.1 h)
  · apply vPick_ok
    unfold rPick at h; unfold vPick
    split at h
    · rename_i hc; rw [hc]; exact holds_opt.1 h
    · rename_i hc; rw [hc]; exact holds_opt.1 h
    · rename_i q hc; rw [hc]
      split at h
      · rename_i s t hx hy; rw [hx, hy]; simp only []
        split at h
        · rename_i p r hp hr; rw [hp, hr]; exact h
        · exact h.elim
      · exact h.elim
    · exact h.elim
  · unfold rBinN at h
    split at h
    · rename_i hq; exact vNil_ok hq h
    apply vBin_ok
    unfold rBin at h; unfold vBin
    split at h
    · rename_i k p k' q hx hy
      rw [hx, hy]; simp only []
      split at h
      · exact h
      · exact h
      · rename_i n1 n2
        obtain ⟨hk, h⟩ := h
        split
        · exact absurd rfl n1
        · exact absurd rfl n2
        · refine ⟨hk, ?_⟩
          unfold rIbin at h; unfold ibin
          split at h <;> first | exact h | exact h.elim
    · rename_i s t hne hx hy
      rw [hx, hy]
      split
      · rename_i k p k' q h1 h2
        simp only [Option.some.injEq] at h1 h2
        exact (hne _ _ _ _ (by rw [h1]) (by rw [h2])).elim
      · rename_i s' t' _ h1 h2
        simp only [Option.some.injEq] at h1 h2
        subst h1; subst h2
        generalize wideB _ _ _ s t = o at h ⊢
        cases o with
        | none => exact h.elim
        | some r => exact h
      · rename_i hn; exact (hn s t rfl rfl).elim
    · exact h.elim
  · apply vUn_ok
    unfold rUn at h; unfold vUn
    split at h <;> first | (rename_i hx; rw [hx]; exact h) | (rename_i q hx; rw [hx]; exact h) | (rename_i k n hx; rw [hx]; exact h) | exact h.elim
  · unfold rConv at h
    split at h
    · rename_i e sv hs hd hx
      obtain ⟨he, h⟩ := h
      exact strRd_ok hs he hd hx h
    · apply vConv_ok
      unfold vConv
      rename_i h1 h2 h3; rw [h1, h2, h3]; exact h
    · apply vConv_ok
      unfold vConv
      rename_i h1 h2 h3; rw [h1, h2, h3]; exact h
    · exact h.elim
  · apply vExtract_ok
    unfold rExtract at h; unfold vExtract
    split at h
    · rename_i hx; rw [hx]; exact h
    · exact h.elim
  · apply vFieldAddr_ok
    unfold rFieldAddr at h; unfold vFieldAddr
    split at h
    · rename_i off ft hf
      rw [hf]
      obtain ⟨hz, h⟩ := h
      refine ⟨hz, ?_⟩
      split at h
      · rename_i hx; rw [hx]; exact h
      · rename_i hx; rw [hx]; exact h
      · rename_i hx; rw [hx]; exact h
      · exact h.elim
    · exact h.elim
  · apply vField_ok
    unfold rField at h; unfold vField
    split at h
    · rename_i off ft n rd hf hx
      rw [hf, hx]; simp only []
      split at h
      · rename_i hp; rw [hp]; exact h
      · rename_i hp; rw [hp]; exact h
    · exact h.elim
  · apply vIndexAddr_ok
    unfold rIndexAddr at h; unfold vIndexAddr
    split at h
    · rename_i e s k n ht hx hi
      rw [ht, hx, hi]; simp only []
      split at h
      · rename_i ha; rw [ha]; exact h
      · rename_i ha; rw [ha]; simp only []
        split at h
        · split at h
          · rename_i ho; simp only []; rw [ho]; exact h
          · exact h.elim
        · split at h
          · rename_i ho; simp only []; rw [ho]; exact h
          · exact h.elim
        · exact h.elim
    · rename_i ht hx hi; rw [ht, hx, hi]; exact h
    · rename_i ht hx hi; rw [ht, hx, hi]; exact h
    · exact h.elim
  · apply vLoad_ok
    unfold rLoad at h; unfold vLoad
    split at h
    · rename_i hx; rw [hx]; simp only []
      split at h
      · rename_i hp; rw [hp]; exact h
      · rename_i hp; rw [hp]; exact h
    · rename_i hx; rw [hx]; simp only []
      split at h
      · rename_i ho; rw [ho]; simp only []
        obtain ⟨hb, h⟩ := h
        refine ⟨hb, ?_⟩
        split at h
        · rename_i hp; rw [hp]; exact holds_opt.1 h
        · rename_i hp; rw [hp]; exact h
      · exact h.elim
    · rename_i hx; rw [hx]; simp only []
      split at h
      · rename_i ho; rw [ho]; simp only []
        obtain ⟨hb, hi, h⟩ := h
        refine ⟨hb, hi, ?_⟩
        split at h
        · rename_i hp; rw [hp]; exact h
        · rename_i hp; rw [hp]; exact h
      · exact h.elim
    · exact h.elim
  · apply vBuild_ok
    unfold rBuild at h; unfold vBuild
    split at h
    · rename_i l hl
      obtain ⟨⟨h1, h2, h3⟩, h⟩ := h
      refine ⟨h1, h2, h3, ?_⟩
      rw [hl]; exact h
    · exact h.elim
  · exact rFunc_ok h
  · apply vSlice_ok
    unfold rSlice at h; unfold vSlice
    split at h
    · rename_i ht hx; rw [ht, hx]; simp only []
      split at h
      · rename_i ha; rw [ha]; simp only []
        split at h
        · rename_i h1 h2; rw [h1, h2]; exact h
        · exact h.elim
      · exact h.elim
    · rename_i ht hx; rw [ht, hx]; simp only []
      split at h
      · rename_i h1 h2; rw [h1, h2]; exact h
      · exact h.elim
    · exact h.elim
  · apply vLen_ok
    unfold rLen at h; unfold vLen
    split at h <;> first | (rename_i ht hx; rw [ht, hx]; exact h) | exact h.elim
  · apply vCap_ok
    unfold rCap at h; unfold vCap
    split at h <;> first | (rename_i ht hx; rw [ht, hx]; exact h) | exact h.elim
  · apply vMax_ok
    unfold rMax at h; unfold vMax
    split at h
    · rename_i hx hy; rw [hx, hy]; exact h
    · exact h.elim
  · apply vMin_ok
    unfold rMin at h; unfold vMin
    split at h
    · rename_i hx hy; rw [hx, hy]; exact h
    · exact h.elim
  · apply vNilCheck_ok
    unfold rNilCheck at h; unfold vNilCheck
    split at h <;> first | (rename_i hx; rw [hx]; exact h) | exact h.elim
  · apply vIndex_ok
    unfold rIndex at h; unfold vIndex
    split at h
    · rename_i h1 h2 h3; rw [h1, h2, h3]; exact h
    · rename_i h1 h2 h3; rw [h1, h2, h3]; simp only []
      refine ⟨h.1, ?_⟩
      have h := h.2
      split at h
      · rename_i ha; rw [ha]; exact h
      · rename_i ha; rw [ha]; exact h
    · exact h.elim
  · apply vLookup_ok
    unfold rLook at h; unfold vLookup
    split at h
    · rename_i h1 h2 h3; rw [h1, h2, h3]; simp only []
      split at h
      · rename_i h4 h5; rw [h4, h5]; exact h
      · exact h.elim
    · exact h.elim
  · exact h.elim
end Eng
end Go.Proofs.YtpkmnggfomllhaaDoor
