/- The evaluator, part L: its rules, as equations for simp. -/
import Derived.Test.YtpkmnggfomllhaaDoorEngK
import Derived.IntWalk
set_option linter.unusedSimpArgs false
set_option linter.unusedVariables false
namespace Go.Proofs.YtpkmnggfomllhaaDoor
namespace Eng
section
variable {P : Program} {F : Frm} {ds : List (Option Tmp)} {rest : List Oper} {n : Nat} {env : List (Nat × SV)} {own : List Own} {k : St → Prop} {dst : Option Tmp} {ty : TypeId} {pos : String} {aft : Array Edge}
def dOk (n : Nat) : Option Tmp → Prop
  | some d => d < n
  | none => True
theorem dOk_some (n d : Nat) : dOk n (some d) = (d < n) := rfl
theorem dOk_none (n : Nat) : dOk n none = True := rfl
theorem look_cons (t : Nat) (s : SV) (l : List (Nat × SV)) (u : Nat) : look ((t, s) :: l) u = if t = u then some s else look l u := rfl
theorem look_nil (u : Nat) : look [] u = none := rfl
theorem look_hit (t : Nat) (s : SV) (l : List (Nat × SV)) : look ((t, s) :: l) t = some s := if_pos rfl
theorem look_miss {t u : Nat} (h : t ≠ u) (s : SV) (l : List (Nat × SV)) : look ((t, s) :: l) u = look l u := if_neg h
theorem put_some (d : Tmp) (s : SV) : St.put ⟨n, env, own⟩ (some d) s = ⟨n, (d, s) :: env, own⟩ := rfl
theorem put_none (s : SV) : St.put ⟨n, env, own⟩ none s = ⟨n, env, own⟩ := rfl
theorem ev_tmp (t : Tmp) : ev env (.tmp t) = look env t := rfl
theorem ev_int (k : IntKind) (m : Int) : ev env (.const (.int k m)) = some (.i k m) := rfl
theorem ev_true : ev env (.const (.bool true)) = some .tt := rfl
theorem ev_false : ev env (.const (.bool false)) = some .ff := rfl
theorem ev_nil : ev env (.const (.slice none 0 0)) = some (.sl none 0 0 0 fun _ _ => .v undef) := rfl
theorem ev_str (s : ByteArray) : ev env (.const (.string s)) = some (.v (.string s)) := rfl
theorem ev_fn (f : FuncId) : ev env (.func f) = some (.fn f 0 fun _ => default) := rfl
def WV (P : Program) (F : Frm) (ds : List (Option Tmp)) (rest : List Oper) (dst : Option Tmp) (st : St) (r : VR) (k : St → Prop) : Prop := r.holds fun s => WO P F ds rest (st.put dst s) k
theorem wv_val {st : St} (s : SV) : WV P F ds rest dst st (.val s) k = WO P F ds rest (st.put dst s) k := rfl
theorem wv_cond {st : St} (p : Prop) (r : VR) : WV P F ds rest dst st (.cond p r) k = (p ∧ WV P F ds rest dst st r k) := rfl
theorem wv_fail {st : St} : WV P F ds rest dst st .fail k = False := rfl
theorem rOpt_some (s : SV) : rOpt (some s) = .val s := rfl
theorem rOpt_none : rOpt none = .fail := rfl
theorem wo_nil {st : St} : WO P F ds [] st k = k st := rfl
theorem wo_move (x : Operand) : WO P F ds (⟨dst, .move x, ty, pos, aft, none⟩ :: rest) ⟨n, env, own⟩ k = (dOk n dst ∧ WV P F ds rest dst ⟨n, env, own⟩ (rOpt (ev env x)) k) := rfl
theorem wo_assign (x : Operand) : WO P F ds (⟨dst, .assign x, ty, pos, aft, none⟩ :: rest) ⟨n, env, own⟩ k = (dOk n dst ∧ WV P F ds rest dst ⟨n, env, own⟩ (rOpt (ev env x)) k) := rfl
theorem wo_pick (c x y : Operand) : WO P F ds (⟨dst, .pick c x y, ty, pos, aft, none⟩ :: rest) ⟨n, env, own⟩ k = (dOk n dst ∧ WV P F ds rest dst ⟨n, env, own⟩ (rPick (ev env c) (ev env x) (ev env y)) k) := rfl
theorem wo_bin (op : BinOp) (t t' : TypeId) (x y : Operand) : WO P F ds (⟨dst, .binOp op t x y t', ty, pos, aft, none⟩ :: rest) ⟨n, env, own⟩ k = (dOk n dst ∧ WV P F ds rest dst ⟨n, env, own⟩ (rBinN P t op (ev env x) (ev env y) (nilC y)) k) := rfl
theorem wo_un (op : UnOp) (t : TypeId) (x : Operand) : WO P F ds (⟨dst, .unOp op t x, ty, pos, aft, none⟩ :: rest) ⟨n, env, own⟩ k = (dOk n dst ∧ WV P F ds rest dst ⟨n, env, own⟩ (rUn op (ev env x)) k) := rfl
def WByt (P : Program) (F : Frm) (ds : List (Option Tmp)) (rest : List Oper) (dst : Option Tmp) (st : St) (s d : TK) (x : Option SV) (k : St → Prop) : Prop :=
  match x, s, d with
  | some (.v (.string b)), .str, .slice e => (tk P e = .int .u8 ∧ b.size ≤ 1000000) ∧ ∀ blk cap : Nat, WO P F ds rest (st.put dst (.sl (some ⟨blk, 0, none⟩) b.size cap 1 fun i _ => .i .u8 (b.data.toList.getD i 0).toNat)) k
  | _, _, _ => False
theorem wo_conv (s d : TypeId) (x : Operand) : WO P F ds (⟨dst, .convert s d x, ty, pos, aft, none⟩ :: rest) ⟨n, env, own⟩ k = (dOk n dst ∧ if d = 22 then WByt P F ds rest dst ⟨n, env, own⟩ (tk P s) (tk P d) (ev env x) k else WV P F ds rest dst ⟨n, env, own⟩ (rConv P own (tk P s) (tk P d) (ev env x)) k) := by
  have e : byT = 22 := rfl
  simp only [WO, stepO, e]
  rfl
theorem wo_extract (x : Operand) (ix : Nat) : WO P F ds (⟨dst, .extract x ix, ty, pos, aft, none⟩ :: rest) ⟨n, env, own⟩ k = (dOk n dst ∧ WV P F ds rest dst ⟨n, env, own⟩ (rExtract (ev env x) ix) k) := rfl
theorem wo_fieldAddr (t : TypeId) (x : Operand) (f : Nat) : WO P F ds (⟨dst, .fieldAddr t x f, ty, pos, aft, none⟩ :: rest) ⟨n, env, own⟩ k = (dOk n dst ∧ WV P F ds rest dst ⟨n, env, own⟩ (rFieldAddr P (fieldOf P t f) (ev env x)) k) := rfl
theorem wo_nilCheck (x : Operand) : WO P F ds (⟨dst, .nilCheck x, ty, pos, aft, none⟩ :: rest) ⟨n, env, own⟩ k = (dOk n dst ∧ WV P F ds rest dst ⟨n, env, own⟩ (rNilCheck (ev env x)) k) := rfl
theorem wo_index (t : TypeId) (x i : Operand) : WO P F ds (⟨dst, .index t x i, ty, pos, aft, none⟩ :: rest) ⟨n, env, own⟩ k = (dOk n dst ∧ WV P F ds rest dst ⟨n, env, own⟩ (rIndex P (tk P t) (ev env x) (ev env i)) k) := rfl
theorem wo_field (t : TypeId) (x : Operand) (f : Nat) : WO P F ds (⟨dst, .field t x f, ty, pos, aft, none⟩ :: rest) ⟨n, env, own⟩ k = (dOk n dst ∧ WV P F ds rest dst ⟨n, env, own⟩ (rField P (fieldOf P t f) (ev env x)) k) := rfl
theorem wo_indexAddr (t : TypeId) (x i : Operand) : WO P F ds (⟨dst, .indexAddr t x i, ty, pos, aft, none⟩ :: rest) ⟨n, env, own⟩ k = (dOk n dst ∧ WV P F ds rest dst ⟨n, env, own⟩ (rIndexAddr P own (tk P t) (ev env x) (ev env i)) k) := rfl
theorem wo_load (t : TypeId) (x : Operand) : WO P F ds (⟨dst, .load t x, ty, pos, aft, none⟩ :: rest) ⟨n, env, own⟩ k = (dOk n dst ∧ WV P F ds rest dst ⟨n, env, own⟩ (rLoad P own t (ev env x)) k) := rfl
def WCut (P : Program) (F : Frm) (ds : List (Option Tmp)) (rest : List Oper) (dst : Option Tmp) (n : Nat) (env : List (Nat × SV)) (own : List Own) (t : TK) (s : Option SV) (lo hi : Option Operand) (k : St → Prop) : Prop :=
  match t, s with
  | .slice e, some (.os id a len cap) => (match own[id]? with
    | some (.row a1 e1 len1 cap1 sz rd) => (match bound env lo 0, bound env hi len with
      | some l, some h => (a1 = a ∧ len1 = len ∧ cap1 = cap ∧ tsz P e = sz ∧ 0 < sz) ∧ (if lo.isSome = true ∧ hi.isNone = true then (0 ≤ l ∧ l ≤ (len : Int)) ∧ WO P F ds rest (St.put ⟨n, env, own⟩ dst (.ow id a sz l.toNat (len - l.toNat) (cap - l.toNat))) k else (l = 0 ∧ 0 ≤ h ∧ h ≤ (len : Int)) ∧ WO P F ds rest (St.put ⟨n, env, own.set id (.row a e1 h.toNat cap sz rd)⟩ dst (.os id a h.toNat cap)) k)
      | _, _ => False)
    | _ => False)
  | _, _ => False
theorem wo_slice (t : TypeId) (x : Operand) (lo hi : Option Operand) : WO P F ds (⟨dst, .slice t x lo hi none, ty, pos, aft, none⟩ :: rest) ⟨n, env, own⟩ k = (dOk n dst ∧ (if isRow own (ev env x) = true then WCut P F ds rest dst n env own (tk P t) (ev env x) lo hi k else WV P F ds rest dst ⟨n, env, own⟩ (rSlice P own env (tk P t) (ev env x) lo hi) k)) := rfl
theorem wo_build (t : TypeId) (ps : List (Nat × Operand)) : WO P F ds (⟨dst, .build t ps.toArray, ty, pos, aft, none⟩ :: rest) ⟨n, env, own⟩ k = (dOk n dst ∧ WV P F ds rest dst ⟨n, env, own⟩ (rBuild P t (fillS (placesOf P t) (tz P t) (ps.map fun p => (p.1, ev env p.2)))) k) := by
  simp only [WO, stepO, rOp, WV]; rfl
theorem wo_len (x : Operand) (t : TypeId) : WO P F ds (⟨dst, .call { callee := .builtin .len, args := #[x], argTypes := #[t] }, ty, pos, aft, none⟩ :: rest) ⟨n, env, own⟩ k = (dOk n dst ∧ WV P F ds rest dst ⟨n, env, own⟩ (rLen (tk P t) (ev env x)) k) := rfl
theorem wo_cap (x : Operand) (t : TypeId) : WO P F ds (⟨dst, .call { callee := .builtin .cap, args := #[x], argTypes := #[t] }, ty, pos, aft, none⟩ :: rest) ⟨n, env, own⟩ k = (dOk n dst ∧ WV P F ds rest dst ⟨n, env, own⟩ (rCap (tk P t) (ev env x)) k) := rfl
theorem wo_max (x y : Operand) (ts : Array TypeId) : WO P F ds (⟨dst, .call { callee := .builtin .max, args := #[x, y], argTypes := ts }, ty, pos, aft, none⟩ :: rest) ⟨n, env, own⟩ k = (dOk n dst ∧ WV P F ds rest dst ⟨n, env, own⟩ (rMax (ev env x) (ev env y)) k) := rfl
theorem wo_min (x y : Operand) (ts : Array TypeId) : WO P F ds (⟨dst, .call { callee := .builtin .min, args := #[x, y], argTypes := ts }, ty, pos, aft, none⟩ :: rest) ⟨n, env, own⟩ k = (dOk n dst ∧ WV P F ds rest dst ⟨n, env, own⟩ (rMin (ev env x) (ev env y)) k) := rfl
theorem wo_alloc (t : TypeId) : WO P F ds (⟨dst, .alloc t, ty, pos, aft, none⟩ :: rest) ⟨n, env, own⟩ k = (dOk n dst ∧ (tz P t ≠ [] ∧ (tz P t).all oneS = true) ∧ ∀ blk : Nat, WO P F ds rest (St.put ⟨n, env, own ++ [.box blk t (tz P t)]⟩ dst (.op own.length blk 0)) k) := rfl
def WBox (P : Program) (F : Frm) (ds : List (Option Tmp)) (rest : List Oper) (dst : Option Tmp) (n : Nat) (env : List (Nat × SV)) (own : List Own) (t : TypeId) (s : Option SV) (k : St → Prop) : Prop :=
  match s with
  | some s => (flatOk s = true ∧ (flat s).all oneS = true) ∧ ∀ blk : Nat, WO P F ds rest (St.put ⟨n, env, own ++ [.box blk t (flat s)]⟩ dst (.op own.length blk 0)) k
  | none => False
theorem wo_box (t : TypeId) (x : Operand) : WO P F ds (⟨dst, .box t x, ty, pos, aft, none⟩ :: rest) ⟨n, env, own⟩ k = (dOk n dst ∧ WBox P F ds rest dst n env own t (ev env x) k) := rfl
theorem wbox_some (t : TypeId) (s : SV) : WBox P F ds rest dst n env own t (some s) k = ((flatOk s = true ∧ (flat s).all oneS = true) ∧ ∀ blk : Nat, WO P F ds rest (St.put ⟨n, env, own ++ [.box blk t (flat s)]⟩ dst (.op own.length blk 0)) k) := rfl
def WSt (P : Program) (F : Frm) (ds : List (Option Tmp)) (rest : List Oper) (dst : Option Tmp) (n : Nat) (env : List (Nat × SV)) (own : List Own) (t : TypeId) (p s : Option SV) (k : St → Prop) : Prop :=
  match p, s with
  | some (.op id blk off), some s => (match own[id]? with
    | some (.box blk' ty cs) => blk' = blk ∧ (flatOk s = true ∧ (flat s).all oneS = true ∧ (flat s).length = tsz P t ∧ 0 < tsz P t ∧ off + tsz P t ≤ cs.length) ∧ WO P F ds rest (St.put ⟨n, env, own.set id (.box blk' ty (lay cs off (flat s)))⟩ dst (.v undef)) k
    | _ => False)
  | some (.oe id blk off ix j), some s => (match own[id]? with
    | some (.row a e len cap sz rd) => ((a.getD default).block = blk ∧ ix * sz + j = off) ∧ ix < len ∧ (flatOk s = true ∧ (flat s).all oneS = true ∧ (flat s).length = tsz P t ∧ 0 < tsz P t ∧ j + tsz P t ≤ sz) ∧ WO P F ds rest (St.put ⟨n, env, own.set id (.row a e len cap sz (rdSet rd ix j (flat s)))⟩ dst (.v undef)) k
    | _ => False)
  | _, _ => False
theorem wo_store (t : TypeId) (x y : Operand) : WO P F ds (⟨dst, .store t x y, ty, pos, aft, none⟩ :: rest) ⟨n, env, own⟩ k = (dOk n dst ∧ WSt P F ds rest dst n env own t (ev env x) (ev env y) k) := rfl
def WStB (P : Program) (F : Frm) (ds : List (Option Tmp)) (rest : List Oper) (dst : Option Tmp) (n : Nat) (env : List (Nat × SV)) (own : List Own) (t : TypeId) (id blk off : Nat) (s : SV) (o : Option Own) (k : St → Prop) : Prop :=
  match o with
  | some (.box blk' ty cs) => blk' = blk ∧ (flatOk s = true ∧ (flat s).all oneS = true ∧ (flat s).length = tsz P t ∧ 0 < tsz P t ∧ off + tsz P t ≤ cs.length) ∧ WO P F ds rest (St.put ⟨n, env, own.set id (.box blk' ty (lay cs off (flat s)))⟩ dst (.v undef)) k
  | _ => False
theorem wst_op (t : TypeId) (id blk off : Nat) (s : SV) : WSt P F ds rest dst n env own t (some (.op id blk off)) (some s) k = WStB P F ds rest dst n env own t id blk off s own[id]? k := rfl
theorem wstb_box (t : TypeId) (id blk off blk' ty : Nat) (s : SV) (cs : List SV) : WStB P F ds rest dst n env own t id blk off s (some (.box blk' ty cs)) k = (blk' = blk ∧ (flatOk s = true ∧ (flat s).all oneS = true ∧ (flat s).length = tsz P t ∧ 0 < tsz P t ∧ off + tsz P t ≤ cs.length) ∧ WO P F ds rest (St.put ⟨n, env, own.set id (.box blk' ty (lay cs off (flat s)))⟩ dst (.v undef)) k) := rfl
def WStR (P : Program) (F : Frm) (ds : List (Option Tmp)) (rest : List Oper) (dst : Option Tmp) (n : Nat) (env : List (Nat × SV)) (own : List Own) (t : TypeId) (id blk off ix j : Nat) (s : SV) (o : Option Own) (k : St → Prop) : Prop :=
  match o with
  | some (.row a e len cap sz rd) => ((a.getD default).block = blk ∧ ix * sz + j = off) ∧ ix < len ∧ (flatOk s = true ∧ (flat s).all oneS = true ∧ (flat s).length = tsz P t ∧ 0 < tsz P t ∧ j + tsz P t ≤ sz) ∧ WO P F ds rest (St.put ⟨n, env, own.set id (.row a e len cap sz (rdSet rd ix j (flat s)))⟩ dst (.v undef)) k
  | _ => False
theorem wst_oe (t : TypeId) (id blk off ix j : Nat) (s : SV) : WSt P F ds rest dst n env own t (some (.oe id blk off ix j)) (some s) k = WStR P F ds rest dst n env own t id blk off ix j s own[id]? k := rfl
theorem wstr_row (t : TypeId) (id blk off ix j : Nat) (s : SV) (a : Option Addr) (e len cap sz : Nat) (rd : Nat → Nat → SV) : WStR P F ds rest dst n env own t id blk off ix j s (some (.row a e len cap sz rd)) k = (((a.getD default).block = blk ∧ ix * sz + j = off) ∧ ix < len ∧ (flatOk s = true ∧ (flat s).all oneS = true ∧ (flat s).length = tsz P t ∧ 0 < tsz P t ∧ j + tsz P t ≤ sz) ∧ WO P F ds rest (St.put ⟨n, env, own.set id (.row a e len cap sz (rdSet rd ix j (flat s)))⟩ dst (.v undef)) k) := rfl
def WBs (P : Program) (F : Frm) (ds : List (Option Tmp)) (rest : List Oper) (dst : Option Tmp) (n : Nat) (env : List (Nat × SV)) (own : List Own) (e : TypeId) (m : Nat) (l : Option (List SV)) (k : St → Prop) : Prop :=
  match l with
  | some l => l.all oneS = true ∧ l.length = m * tsz P e ∧ ∀ blk : Nat, WO P F ds rest (St.put ⟨n, env, own ++ [Own.row (some ⟨blk, 0, none⟩) e m m (tsz P e) (rdL l (tsz P e))]⟩ dst (.os own.length (some ⟨blk, 0, none⟩) m m)) k
  | none => False
theorem wbs_some (e : TypeId) (m : Nat) (l : List SV) : WBs P F ds rest dst n env own e m (some l) k = (l.all oneS = true ∧ l.length = m * tsz P e ∧ ∀ blk : Nat, WO P F ds rest (St.put ⟨n, env, own ++ [Own.row (some ⟨blk, 0, none⟩) e m m (tsz P e) (rdL l (tsz P e))]⟩ dst (.os own.length (some ⟨blk, 0, none⟩) m m)) k) := rfl
def WBsT (P : Program) (F : Frm) (ds : List (Option Tmp)) (rest : List Oper) (dst : Option Tmp) (n : Nat) (env : List (Nat × SV)) (own : List Own) (t : TK) (m : Nat) (ps : List (Nat × Operand)) (k : St → Prop) : Prop :=
  match t with
  | .slice e => (0 < tsz P e ∧ tz P e ≠ [] ∧ m * tsz P e ≤ 16777216) ∧ WBs P F ds rest dst n env own e m (fillS (fun i => some (i * tsz P e, tsz P e)) ((List.range (m * tsz P e)).map fun q => (tz P e).getD (q % (tz P e).length) default) (ps.map fun p => (p.1, ev env p.2))) k
  | _ => False
theorem wbst_slice (e : TypeId) (m : Nat) (ps : List (Nat × Operand)) : WBsT P F ds rest dst n env own (.slice e) m ps k = ((0 < tsz P e ∧ tz P e ≠ [] ∧ m * tsz P e ≤ 16777216) ∧ WBs P F ds rest dst n env own e m (fillS (fun i => some (i * tsz P e, tsz P e)) ((List.range (m * tsz P e)).map fun q => (tz P e).getD (q % (tz P e).length) default) (ps.map fun p => (p.1, ev env p.2))) k) := rfl
theorem wo_buildSlice (t : TypeId) (m : Nat) (ps : List (Nat × Operand)) : WO P F ds (⟨dst, .buildSlice t m ps.toArray, ty, pos, aft, none⟩ :: rest) ⟨n, env, own⟩ k = (dOk n dst ∧ WBsT P F ds rest dst n env own (tk P t) m ps k) := by
  simp only [WO, stepO, sBuildSlice, WBsT, WBs]; rfl
def WApp (P : Program) (F : Frm) (ds : List (Option Tmp)) (rest : List Oper) (dst : Option Tmp) (n : Nat) (env : List (Nat × SV)) (own : List Own) (t : TK) (s : Option SV) (y : Option (Option Addr × Nat × Nat × Nat × (Nat → Nat → SV))) (k : St → Prop) : Prop :=
  match t, s, y with
  | .slice e, some s, some (a', m, _, sz, rd') => (tsz P e = sz ∧ 0 < sz ∧ (tz P e).length = sz) ∧ (match s with
      | .sl none 0 0 _ _ => (m ≤ maxLen ∧ m * tby P e ≤ 140737488355328) ∧ ∀ (a : Option Addr) (cap : Nat), WO P F ds rest (St.put ⟨n, env, own ++ [Own.row a e m cap sz rd']⟩ dst (.os own.length a m cap)) k
      | .os id a len cap => (match own[id]? with
        | some (.row a1 e1 len1 cap1 sz1 rd) => (a1 = a ∧ len1 = len ∧ cap1 = cap ∧ e1 = e ∧ sz1 = sz) ∧ (len + m ≤ maxLen ∧ (len + m) * tby P e ≤ 140737488355328) ∧
          ∀ (a2 : Option Addr) (cap2 : Nat), WO P F ds rest (St.put ⟨n, env, own.set id (Own.row a2 e (len + m) cap2 sz (rdCat len rd rd'))⟩ dst (.os id a2 (len + m) cap2)) k
        | _ => False)
      | _ => False)
  | _, _, _ => False
def WZer (P : Program) (F : Frm) (ds : List (Option Tmp)) (rest : List Oper) (dst : Option Tmp) (n : Nat) (env : List (Nat × SV)) (own : List Own) (t t' : TK) (s y : Option SV) (k : St → Prop) : Prop :=
  match t, t', s, y with
  | .slice e, .int _, some (.sl none 0 0 _ _), some (.i _ m) => (0 < m ∧ m ≤ 9223372036854775807 ∧ m * (tby P e : Nat) ≤ 281474976710656) ∧ (0 < tsz P e ∧ (tz P e).length = tsz P e ∧ (tz P e).all oneS = true) ∧
    ∀ (a : Option Addr) (cap : Nat), WO P F ds rest (St.put ⟨n, env, own ++ [Own.row a e m.toNat cap (tsz P e) (fun _ j => (tz P e).getD j default)]⟩ dst (.os own.length a m.toNat cap)) k
  | _, _, _, _ => False
def WMk (P : Program) (F : Frm) (ds : List (Option Tmp)) (rest : List Oper) (dst : Option Tmp) (n : Nat) (env : List (Nat × SV)) (own : List Own) (t : TK) (x y : Option SV) (k : St → Prop) : Prop :=
  match t, x, y with
  | .slice e, some (.i _ m'), some (.i _ m) => (m' = m ∧ 0 ≤ m ∧ m ≤ 4611686018427387903 ∧ m * (tby P e : Nat) ≤ 281474976710656) ∧ (0 < tsz P e ∧ (tz P e).length = tsz P e ∧ (tz P e).all oneS = true) ∧
    ∀ (a : Option Addr) (cap : Nat), WO P F ds rest (St.put ⟨n, env, own ++ [Own.row a e m.toNat cap (tsz P e) (fun _ j => (tz P e).getD j default)]⟩ dst (.os own.length a m.toNat cap)) k
  | _, _, _ => False
theorem wo_makeSlice (t : TypeId) (x y : Operand) : WO P F ds (⟨dst, .makeSlice t x y, ty, pos, aft, none⟩ :: rest) ⟨n, env, own⟩ k = (dOk n dst ∧ WMk P F ds rest dst n env own (tk P t) (ev env x) (ev env y) k) := by
  simp only [WO, stepO, sMake]; rfl
theorem wmk_int (e : TypeId) (k1 k2 : IntKind) (m' m : Int) : WMk P F ds rest dst n env own (.slice e) (some (.i k1 m')) (some (.i k2 m)) k = ((m' = m ∧ 0 ≤ m ∧ m ≤ 4611686018427387903 ∧ m * (tby P e : Nat) ≤ 281474976710656) ∧ (0 < tsz P e ∧ (tz P e).length = tsz P e ∧ (tz P e).all oneS = true) ∧
    ∀ (a : Option Addr) (cap : Nat), WO P F ds rest (St.put ⟨n, env, own ++ [Own.row a e m.toNat cap (tsz P e) (fun _ j => (tz P e).getD j default)]⟩ dst (.os own.length a m.toNat cap)) k) := rfl
theorem wo_append (t t' : TypeId) (x y : Operand) : WO P F ds (⟨dst, .call { callee := .builtin .append, args := #[x, y], argTypes := #[t, t'] }, ty, pos, aft, none⟩ :: rest) ⟨n, env, own⟩ k = (dOk n dst ∧ (if t = t' then WApp P F ds rest dst n env own (tk P t) (ev env x) ((ev env y).bind (asAny own)) k else WZer P F ds rest dst n env own (tk P t) (tk P t') (ev env x) (ev env y) k)) := by
  simp only [WO, stepO, sAppend, sZeros]
  congr 1
  by_cases e : t = t'
  · rw [if_pos e, if_pos e]
    unfold WApp
    cases tk P t <;> cases ev env x <;> cases ev env y <;> first | rfl | (simp only [Option.bind_some]; cases asAny own _ <;> rfl)
  · rw [if_neg e, if_neg e]
    rfl
theorem wapp_nil (e sz0 : Nat) (rd0 : Nat → Nat → SV) (a' : Option Addr) (m c sz : Nat) (rd' : Nat → Nat → SV) : WApp P F ds rest dst n env own (.slice e) (some (.sl none 0 0 sz0 rd0)) (some (a', m, c, sz, rd')) k = ((tsz P e = sz ∧ 0 < sz ∧ (tz P e).length = sz) ∧ (m ≤ maxLen ∧ m * tby P e ≤ 140737488355328) ∧ ∀ (a : Option Addr) (cap : Nat), WO P F ds rest (St.put ⟨n, env, own ++ [Own.row a e m cap sz rd']⟩ dst (.os own.length a m cap)) k) := rfl
def WAppR (P : Program) (F : Frm) (ds : List (Option Tmp)) (rest : List Oper) (dst : Option Tmp) (n : Nat) (env : List (Nat × SV)) (own : List Own) (e id : Nat) (a : Option Addr) (len cap m sz : Nat) (rd' : Nat → Nat → SV) (o : Option Own) (k : St → Prop) : Prop :=
  match o with
  | some (.row a1 e1 len1 cap1 sz1 rd) => (a1 = a ∧ len1 = len ∧ cap1 = cap ∧ e1 = e ∧ sz1 = sz) ∧ (len + m ≤ maxLen ∧ (len + m) * tby P e ≤ 140737488355328) ∧
          ∀ (a2 : Option Addr) (cap2 : Nat), WO P F ds rest (St.put ⟨n, env, own.set id (Own.row a2 e (len + m) cap2 sz (rdCat len rd rd'))⟩ dst (.os id a2 (len + m) cap2)) k
  | _ => False
theorem wapp_own (e id : Nat) (a : Option Addr) (len cap : Nat) (a' : Option Addr) (m c sz : Nat) (rd' : Nat → Nat → SV) : WApp P F ds rest dst n env own (.slice e) (some (.os id a len cap)) (some (a', m, c, sz, rd')) k = ((tsz P e = sz ∧ 0 < sz ∧ (tz P e).length = sz) ∧ WAppR P F ds rest dst n env own e id a len cap m sz rd' own[id]? k) := rfl
theorem wappr_row (e id : Nat) (a : Option Addr) (len cap m sz : Nat) (rd' : Nat → Nat → SV) (a1 : Option Addr) (e1 len1 cap1 sz1 : Nat) (rd : Nat → Nat → SV) : WAppR P F ds rest dst n env own e id a len cap m sz rd' (some (.row a1 e1 len1 cap1 sz1 rd)) k = ((a1 = a ∧ len1 = len ∧ cap1 = cap ∧ e1 = e ∧ sz1 = sz) ∧ (len + m ≤ maxLen ∧ (len + m) * tby P e ≤ 140737488355328) ∧
          ∀ (a2 : Option Addr) (cap2 : Nat), WO P F ds rest (St.put ⟨n, env, own.set id (Own.row a2 e (len + m) cap2 sz (rdCat len rd rd'))⟩ dst (.os id a2 (len + m) cap2)) k) := rfl
def WCall (P : Program) (F : Frm) (ds : List (Option Tmp)) (rest : List Oper) (dst : Option Tmp) (st : St) (f : FuncId) (l : Option (List SV)) (k : St → Prop) : Prop :=
  match l with
  | some l => CallK P F f l st dst fun st' => WO P F ds rest st' k
  | none => False
def WClr (P : Program) (F : Frm) (ds : List (Option Tmp)) (rest : List Oper) (dst : Option Tmp) (n : Nat) (env : List (Nat × SV)) (own : List Own) (t : TK) (s : Option SV) (k : St → Prop) : Prop :=
  match t, s with
  | .slice e, some (.ow id a sz0 off len cap) => (match own[id]? with
    | some (.row a1 e1 len1 cap1 sz rd) => (a1 = a ∧ sz0 = sz ∧ len1 = off + len ∧ cap1 = off + cap) ∧ (0 < tsz P e ∧ tsz P e = sz ∧ (tz P e).length = sz ∧ (tz P e).all oneS = true) ∧
      WO P F ds rest (St.put ⟨n, env, own.set id (.row a1 e1 len1 cap1 sz (rdCat off rd fun _ j => (tz P e).getD j default))⟩ dst (.tup 0 fun _ => default)) k
    | _ => False)
  | _, _ => False
theorem wo_clear (x : Operand) (t : TypeId) : WO P F ds (⟨dst, .call { callee := .builtin .clear, args := #[x], argTypes := #[t] }, ty, pos, aft, none⟩ :: rest) ⟨n, env, own⟩ k = (dOk n dst ∧ WClr P F ds rest dst n env own (tk P t) (ev env x) k) := rfl
def WCpR (P : Program) (F : Frm) (ds : List (Option Tmp)) (rest : List Oper) (dst : Option Tmp) (n : Nat) (env : List (Nat × SV)) (own : List Own) (e id : Nat) (a : Option Addr) (sz0 off len cap id2 : Nat) (a2 : Option Addr) (sz2 off2 len2 cap2 : Nat) (o : Option Own) (k : St → Prop) : Prop :=
  match o with
  | some (.row a1 e1 len1 cap1 sz rd) => (id2 = id ∧ a1 = a ∧ a2 = a ∧ sz0 = sz ∧ sz2 = sz ∧ len1 = off + len ∧ cap1 = off + cap ∧ len1 = off2 + len2 ∧ cap1 = off2 + cap2 ∧ tsz P e = sz ∧ 0 < sz) ∧
      WO P F ds rest (St.put ⟨n, env, own.set id (.row a1 e1 len1 cap1 sz (rdMove off off2 (min len2 len) rd))⟩ dst (.i .i64 (min len2 len : Nat))) k
  | _ => False
def WCpy (P : Program) (F : Frm) (ds : List (Option Tmp)) (rest : List Oper) (dst : Option Tmp) (n : Nat) (env : List (Nat × SV)) (own : List Own) (t : TK) (s s' : Option SV) (k : St → Prop) : Prop :=
  match t, s, s' with
  | .slice e, some (.ow id a sz0 off len cap), some (.ow id2 a2 sz2 off2 len2 cap2) => WCpR P F ds rest dst n env own e id a sz0 off len cap id2 a2 sz2 off2 len2 cap2 own[id]? k
  | _, _, _ => False
theorem wo_copy (x y : Operand) (t t' : TypeId) : WO P F ds (⟨dst, .call { callee := .builtin .copy, args := #[x, y], argTypes := #[t, t'] }, ty, pos, aft, none⟩ :: rest) ⟨n, env, own⟩ k = (dOk n dst ∧ WCpy P F ds rest dst n env own (tk P t) (ev env x) (ev env y) k) := by
  simp only [WO, stepO, sCopy, WCpy, WCpR]
  rfl
theorem wcpy_ow (e id : Nat) (a : Option Addr) (sz0 off len cap id2 : Nat) (a2 : Option Addr) (sz2 off2 len2 cap2 : Nat) : WCpy P F ds rest dst n env own (.slice e) (some (.ow id a sz0 off len cap)) (some (.ow id2 a2 sz2 off2 len2 cap2)) k = WCpR P F ds rest dst n env own e id a sz0 off len cap id2 a2 sz2 off2 len2 cap2 own[id]? k := rfl
theorem wcpr_row (e id : Nat) (a : Option Addr) (sz0 off len cap id2 : Nat) (a2 : Option Addr) (sz2 off2 len2 cap2 : Nat) (a1 : Option Addr) (e1 len1 cap1 sz : Nat) (rd : Nat → Nat → SV) : WCpR P F ds rest dst n env own e id a sz0 off len cap id2 a2 sz2 off2 len2 cap2 (some (.row a1 e1 len1 cap1 sz rd)) k = ((id2 = id ∧ a1 = a ∧ a2 = a ∧ sz0 = sz ∧ sz2 = sz ∧ len1 = off + len ∧ cap1 = off + cap ∧ len1 = off2 + len2 ∧ cap1 = off2 + cap2 ∧ tsz P e = sz ∧ 0 < sz) ∧
      WO P F ds rest (St.put ⟨n, env, own.set id (.row a1 e1 len1 cap1 sz (rdMove off off2 (min len2 len) rd))⟩ dst (.i .i64 (min len2 len : Nat))) k) := rfl
theorem wo_call (f : FuncId) (args : List Operand) (ts : Array TypeId) : WO P F ds (⟨dst, .call { callee := .value (.func f), args := args.toArray, argTypes := ts }, ty, pos, aft, none⟩ :: rest) ⟨n, env, own⟩ k = (dOk n dst ∧ WCall P F ds rest dst ⟨n, env, own⟩ f (evs env args) k) := by
  simp only [WO, stepO]; rfl
theorem wcall_plain {f : FuncId} {args args' : List SV} {post : SV → Prop} {st : St} (h : Contract F P f args' post) (ha : args.map (roArg st.own) = args') (hp : ∀ r, post r → ∀ R w, r.ok R w) (hk : ∀ r, post r → WO P F ds rest (st.put dst r) k) : WCall P F ds rest dst st f (some args) k := by
  unfold WCall
  exact callK_plain (k := fun st' => WO P F ds rest st' k) (by rw [ha]; exact h) hp hk
theorem wcall_slice {f : FuncId} {args args' : List SV} {post : SV → Prop} {st : St} {own' : List Own} (h : Contract F P f args' post) (ho : frz st.own args = own') (ha : args.map (roArgS own') = args') (hk : ∀ r, post r → WO P F ds rest (St.put { st with own := own' } dst r) k) : WCall P F ds rest dst st f (some args) k := by
  subst ho
  unfold WCall
  exact callK_slice (k := fun st' => WO P F ds rest st' k) (by rw [ha]; exact h) hk
def WCallV (P : Program) (F : Frm) (ds : List (Option Tmp)) (rest : List Oper) (dst : Option Tmp) (st : St) (g : Option SV) (l : Option (List SV)) (k : St → Prop) : Prop :=
  match g, l with
  | some (.fn f n rd), some l => CallK P F f (l ++ (List.range n).map rd) st dst fun st' => WO P F ds rest st' k
  | _, _ => False
theorem wo_callv (t : Nat) (args : List Operand) (ts : Array TypeId) : WO P F ds (⟨dst, .call { callee := .value (.tmp t), args := args.toArray, argTypes := ts }, ty, pos, aft, none⟩ :: rest) ⟨n, env, own⟩ k = (dOk n dst ∧ WCallV P F ds rest dst ⟨n, env, own⟩ (look env t) (evs env args) k) := by
  simp only [WO, stepO]; rfl
theorem wcallv_fn {f : FuncId} {m : Nat} {rd : Nat → SV} {l : List SV} {st : St} : WCallV P F ds rest dst st (some (.fn f m rd)) (some l) k = WCall P F ds rest dst st f (some (l ++ (List.range m).map rd)) k := rfl
theorem rFunc_some (f : FuncId) (l : List SV) : rFunc f (some l) = .val (.fn f l.length fun j => l.getD j default) := rfl
theorem wo_makeFunc (f : FuncId) (caps : List Operand) : WO P F ds (⟨dst, .makeFunc (.func f) #[] caps.toArray, ty, pos, aft, none⟩ :: rest) ⟨n, env, own⟩ k = (dOk n dst ∧ WV P F ds rest dst ⟨n, env, own⟩ (rFunc f (evs env caps)) k) := rfl
theorem evs_nil : evs env [] = some [] := rfl
theorem evs_cons (x : Operand) (xs : List Operand) : evs env (x :: xs) = (ev env x).bind fun s => (evs env xs).map (s :: ·) := by
  simp only [evs]; cases ev env x <;> cases evs env xs <;> rfl
def WG (P : Program) (F : Frm) (ds : List (Option Tmp)) (dst : Option Tmp) (op : Op) (rest : List Oper) (n : Nat) (env : List (Nat × SV)) (own : List Own) (want : Bool) (t : Option Tmp) (k : St → Prop) : Prop :=
  match t with
  | none => False
  | some t => match look env t with
    | some .tt => if want = true then WO P F ds (⟨dst, op, 0, "", #[], none⟩ :: rest) ⟨n, env, own⟩ k else dOk n dst ∧ WO P F ds rest (St.put ⟨n, env, own⟩ dst (.v undef)) k
    | some .ff => if want = false then WO P F ds (⟨dst, op, 0, "", #[], none⟩ :: rest) ⟨n, env, own⟩ k else dOk n dst ∧ WO P F ds rest (St.put ⟨n, env, own⟩ dst (.v undef)) k
    | some (.v (.tuple _)) => dOk n dst ∧ WO P F ds rest (St.put ⟨n, env, own⟩ dst (.v undef)) k
    | some (.b x) => t < n ∧ (x = true → if want = true then WO P F ds (⟨dst, op, 0, "", #[], none⟩ :: rest) ⟨n, (t, .tt) :: env, own⟩ k else dOk n dst ∧ WO P F ds rest (St.put ⟨n, (t, .tt) :: env, own⟩ dst (.v undef)) k) ∧
        (x = false → if want = false then WO P F ds (⟨dst, op, 0, "", #[], none⟩ :: rest) ⟨n, (t, .ff) :: env, own⟩ k else dOk n dst ∧ WO P F ds rest (St.put ⟨n, (t, .ff) :: env, own⟩ dst (.v undef)) k)
    | _ => False
theorem wo_guard (op : Op) (j : Nat) (want : Bool) : WO P F ds (⟨dst, op, ty, pos, aft, some (j, want)⟩ :: rest) ⟨n, env, own⟩ k = WG P F ds dst op rest n env own want ((ds[j]?).bind id) k := by
  simp only [WO, WG]
  cases (ds[j]?).bind id with
  | none => rfl
  | some t =>
    simp only []
    cases look env t with
    | none => rfl
    | some s => cases s <;> first | rfl | (rename_i x; cases x <;> rfl)
def WG2 (P : Program) (F : Frm) (ds : List (Option Tmp)) (dst : Option Tmp) (op : Op) (rest : List Oper) (n : Nat) (env : List (Nat × SV)) (own : List Own) (want : Bool) (t : Tmp) (g : Option SV) (k : St → Prop) : Prop :=
  match g with
    | some .tt => if want = true then WO P F ds (⟨dst, op, 0, "", #[], none⟩ :: rest) ⟨n, env, own⟩ k else dOk n dst ∧ WO P F ds rest (St.put ⟨n, env, own⟩ dst (.v undef)) k
    | some .ff => if want = false then WO P F ds (⟨dst, op, 0, "", #[], none⟩ :: rest) ⟨n, env, own⟩ k else dOk n dst ∧ WO P F ds rest (St.put ⟨n, env, own⟩ dst (.v undef)) k
    | some (.v (.tuple _)) => dOk n dst ∧ WO P F ds rest (St.put ⟨n, env, own⟩ dst (.v undef)) k
    | some (.b x) => t < n ∧ (x = true → if want = true then WO P F ds (⟨dst, op, 0, "", #[], none⟩ :: rest) ⟨n, (t, .tt) :: env, own⟩ k else dOk n dst ∧ WO P F ds rest (St.put ⟨n, (t, .tt) :: env, own⟩ dst (.v undef)) k) ∧
        (x = false → if want = false then WO P F ds (⟨dst, op, 0, "", #[], none⟩ :: rest) ⟨n, (t, .ff) :: env, own⟩ k else dOk n dst ∧ WO P F ds rest (St.put ⟨n, (t, .ff) :: env, own⟩ dst (.v undef)) k)
    | _ => False
theorem wg_some (op : Op) (want : Bool) (t : Tmp) : WG P F ds dst op rest n env own want (some t) k = WG2 P F ds dst op rest n env own want t (look env t) k := by
  simp only [WG, WG2]
theorem wg_tt_true (op : Op) (t : Tmp) : WG2 P F ds dst op rest n env own true t (some .tt) k = WO P F ds (⟨dst, op, 0, "", #[], none⟩ :: rest) ⟨n, env, own⟩ k := rfl
theorem wg_tt_false (op : Op) (t : Tmp) : WG2 P F ds dst op rest n env own false t (some .tt) k = (dOk n dst ∧ WO P F ds rest (St.put ⟨n, env, own⟩ dst (.v undef)) k) := rfl
theorem wg_ff_true (op : Op) (t : Tmp) : WG2 P F ds dst op rest n env own true t (some .ff) k = (dOk n dst ∧ WO P F ds rest (St.put ⟨n, env, own⟩ dst (.v undef)) k) := rfl
theorem wg_ff_false (op : Op) (t : Tmp) : WG2 P F ds dst op rest n env own false t (some .ff) k = WO P F ds (⟨dst, op, 0, "", #[], none⟩ :: rest) ⟨n, env, own⟩ k := rfl
theorem wg_undef (op : Op) (want : Bool) (t : Tmp) : WG2 P F ds dst op rest n env own want t (some (.v undef)) k = (dOk n dst ∧ WO P F ds rest (St.put ⟨n, env, own⟩ dst (.v undef)) k) := rfl
theorem wg_b (op : Op) (want : Bool) (t : Tmp) (x : Bool) : WG2 P F ds dst op rest n env own want t (some (.b x)) k = (t < n ∧ (x = true → WG2 P F ds dst op rest n ((t, .tt) :: env) own want t (some .tt) k) ∧ (x = false → WG2 P F ds dst op rest n ((t, .ff) :: env) own want t (some .ff) k)) := rfl
theorem Contract.mono {f : FuncId} {args : List SV} {post post' : SV → Prop} (h : Contract F P f args post) (hp : ∀ r, post r → post' r) : Contract F P f args post' :=
  ⟨h.enters, fun R w h1 h2 h3 => (h.calls R w h1 h2 h3).mono fun e w' ⟨r, a, b, c⟩ => ⟨r, a, hp r b, c⟩⟩
theorem Sat.region_k {st : St} {K : Exit → St → Prop} {id : Nat} {l : List Oper} (h : ∀ k : St → Prop, (∀ st', K .normal st' → k st') → WO P F (l.map (·.dst)) l st k) : Sat P F (.region id l.toArray false) st K :=
  Sat.region (h _ fun _ h => h)
theorem Sat.region_qk {st : St} {K : Exit → St → Prop} {id : Nat} {l : List Oper} (hm : P.follows .mixedOrders = true) (hB : Region.lexB .any l.toArray = true) (h : ∀ k : St → Prop, (∀ st', K .normal st' → k st') → WQ P (l.map (·.dst)) l st k) : Sat P F (.region id l.toArray true) st K :=
  Sat.region_q hm hB (h _ fun _ h => h)
theorem Sat.weak {c : Code} {st : St} {K : Exit → St → Prop} (h : Sat P F c st (fun e st' => ∃ st2, K e st2 ∧ Le st' st2)) : Sat P F c st K :=
  fun R0 w0 a w hr => wp_mono (h R0 w0 a w hr) fun e a' w' ⟨st', ⟨st2, hk, hl⟩, hr'⟩ => ⟨st2, hk, hr'.le hl⟩
theorem rdEq_snoc {n sz : Nat} {rd rd' : Nat → Nat → SV} {cs : List SV} (h1 : rdEq n sz rd rd') (h2 : ∀ j, j < sz → cs.getD j default = rd' n j) : rdEq (n + 1) sz (rdCat n rd (rdL cs sz)) rd' := by
  intro i j hi hj
  unfold rdCat rdL
  split
  · exact h1 i j (by assumption) hj
  · obtain rfl : i = n := by omega
    rw [Nat.sub_self, Nat.zero_mul, Nat.zero_add]
    exact h2 j hj
theorem rdEq_one {n : Nat} {rd rd' : Nat → Nat → SV} {x : SV} (h1 : rdEq n 1 rd rd') (h2 : x = rd' n 0) : rdEq (n + 1) 1 (rdCat n rd (rdL [x] 1)) rd' :=
  rdEq_snoc h1 fun j hj => by obtain rfl : j = 0 := by omega
                              exact h2
theorem rdEq_refl (n sz : Nat) (rd : Nat → Nat → SV) : rdEq n sz rd rd := fun _ _ _ _ => rfl
theorem fnEq_same {f : List Int → Option Int} : fnEq f f = True := eq_true fun _ => rfl
theorem rdEq_same {len sz : Nat} {rd : Nat → Nat → SV} : rdEq len sz rd rd = True := eq_true fun _ _ _ _ => rfl
theorem Sat.at {c : Code} {st : St} {K : Exit → St → Prop} (st2 : St) (h : Sat P F c st (thenK (fun st' => Le st' st2) K)) (hk : K .normal st2) : Sat P F c st K :=
  fun R0 w0 a w hr => wp_mono (h R0 w0 a w hr) fun e a' w' ⟨st', hk', hr'⟩ => by
    cases e with
    | normal => exact ⟨st2, hk, hr'.le hk'⟩
    | _ => exact ⟨st', hk', hr'⟩
theorem Sat.atF {c : Code} {st : St} {K : Exit → St → Prop} {ι : Type} (sh : ι → St) (J : ι → Prop) (h : Sat P F c st (thenK (fun st' => ∃ z, J z ∧ Le st' (sh z)) K)) (hk : ∀ z, J z → K .normal (sh z)) : Sat P F c st K :=
  fun R0 w0 a w hr => wp_mono (h R0 w0 a w hr) fun e a' w' ⟨st', hk', hr'⟩ => by
    cases e with
    | normal => obtain ⟨z, hz, hl⟩ := hk'; exact ⟨sh z, hk z hz, hr'.le hl⟩
    | _ => exact ⟨st', hk', hr'⟩
theorem Sat.adopt {c : Code} {K : Exit → St → Prop} (t : Nat) (e sz : Nat) (rd : Nat → Nat → SV) {sz0 : Nat} {rd0 : Nat → Nat → SV} (hl : look env t = some (.sl none 0 0 sz0 rd0)) (h : Sat P F c ⟨n, (t, .os own.length none 0 0) :: env, own ++ [.row none e 0 0 sz rd]⟩ K) : Sat P F c ⟨n, env, own⟩ K := by
  rintro R0 w0 a w ⟨ob, R, hr⟩
  refine h R0 w0 a w ⟨ob, R, ?_⟩
  have h1 := hr.newRow (o := .row none e 0 0 sz rd) (w' := w) (grown_refl w none) (fun b hb => by cases hb) ⟨by simpa [cellsOf] using World.ownsRow_nil w _ e sz, (fun g hg => by cases hg), (fun i j hi => absurd hi (Nat.not_lt_zero _))⟩
  exact h1.know (s := .sl none 0 0 sz0 rd0) (s' := .os own.length none 0 0) hl rfl (fun _ => trivial)
def sim (s s' : SV) : Prop := s.den = s'.den ∧ ∀ R w, s.ok R w → s'.ok R w
def simA : List SV → List SV → Prop
  | [], [] => True
  | s :: l, s' :: l' => sim s s' ∧ simA l l'
  | _, _ => False
theorem sim_refl (s : SV) : sim s s := ⟨rfl, fun _ _ h => h⟩
theorem sim_sl {a : Option Addr} {len cap sz : Nat} {rd rd' : Nat → Nat → SV} (h : rdEq len sz rd rd') : sim (.sl a len cap sz rd) (.sl a len cap sz rd') := by
  refine ⟨rfl, fun R w hok => ?_⟩
  obtain ⟨h1, h2, h3⟩ := hok
  refine ⟨h1, h2, ?_⟩
  rcases h3 with h3 | ⟨blk, off, ha, hR, hc⟩
  · exact .inl h3
  · exact .inr ⟨blk, off, ha, hR, fun i j hi hj => by rw [← h i j hi hj]; exact hc i j hi hj⟩
theorem simA_den : ∀ {l l' : List SV}, simA l l' → l.map SV.den = l'.map SV.den
  | [], [], _ => rfl
  | s :: l, s' :: l', ⟨h1, h2⟩ => by simp [h1.1, simA_den h2]
theorem simA_ok {R : Nat → Prop} {w : World} : ∀ {l l' : List SV}, simA l l' → (∀ s ∈ l, s.ok R w) → ∀ s ∈ l', s.ok R w
  | [], [], _, _, s, hs => by cases hs
  | a :: l, a' :: l', ⟨h1, h2⟩, h, s, hs => by
    rcases List.mem_cons.1 hs with rfl | hs
    · exact h1.2 R w (h a (by simp))
    · exact simA_ok h2 (fun x hx => h x (by simp [hx])) s hs
theorem Contract.of_sim {f : FuncId} {args args' : List SV} {post : SV → Prop} (h : Contract F P f args' post) (hs : simA args args') : Contract F P f args post :=
  ⟨h.enters, fun R w h1 h2 h3 => by rw [simA_den hs]; exact h.calls R w h1 (simA_ok hs h2) h3⟩
structure Makes (P : Program) (f : FuncId) (args : List SV) (p : Nat → World → Prop) : Prop where
  enters : ∀ vs w, (callFunc f vs).run P w = .ok (.enter f vs) w
  calls : ∀ (R : Nat → Prop) (w : World), (∀ s ∈ args, s.ok R w) → (∀ b, R b → b < w.heap.size) →
    Calls P f (args.map SV.den).toArray w fun e w' => e = .returned (.pointer (some ⟨w.heap.size, 0, none⟩)) ∧ w.heap.size < w'.heap.size ∧ Evo (fun _ => False) w w' ∧ ∀ w'' : World, (∀ b, (R b ∨ b = w.heap.size) → w''.heap[b]? = w'.heap[b]?) → p w.heap.size w''
theorem wcall_make {f : FuncId} {args : List SV} {p : Nat → World → Prop} (h : Makes P f args p) (hk : ∀ cb : Nat, WO P F ds rest (St.put ⟨n, env, own ++ [.res cb (p cb)]⟩ dst (.v (.pointer (some ⟨cb, 0, none⟩)))) k) : WCall P F ds rest dst ⟨n, env, own⟩ f (some args) k := by
  unfold WCall
  intro R0 w0 ob R a w hr hargs
  refine ⟨h.enters, ?_⟩
  refine (h.calls R w hargs (fun b hb => (hr.rr b hb).1)).mono ?_
  rintro e w' ⟨rfl, hlt, hevo, hp⟩
  have hg : w.grownBy w' none := ⟨hevo.os, hevo.tape, hevo.output, hevo.size, fun b hb _ => hevo.block b hb (fun h => h)⟩
  have hnew := hr.newRow (o := .res w.heap.size (p w.heap.size)) hg (fun b hb => by simpa [Own.blk] using hb.symm) ⟨hr.obw, fun hc => by have := (hr.rr _ hc).1; omega, hlt, hp⟩
  exact ⟨.v (.pointer (some ⟨w.heap.size, 0, none⟩)), _, R, rfl, hk w.heap.size, trivial, hnew, rfl⟩
theorem Sat.switch {c : Code} {K : Exit → St → Prop} {cb id : Nat} {F' : Frm} (hM : ∀ b, F'.M b ↔ b = cb) (hL : ∀ b, F'.L b → F'.M b := by exact fun _ h => h) (hid : own[id]? = some (.res cb F'.Inv)) (h : Sat P F' c ⟨n, env, []⟩ K) : Sat P Frm.nil c ⟨n, env, own⟩ K := by
  rintro R0 w0 a w ⟨ob, R, hr⟩
  obtain ⟨h1, h2, h3, h4⟩ := hr.own _ _ hid
  have hrel : RelR F' R0 w0 w.heap.size R ⟨n, env, []⟩ a w :=
    ⟨hr.defers, hr.env, hr.size, fun i o ho => by simp at ho, fun i j o o' _ ho => by simp at ho, ⟨hr.evo.os, hr.evo.tape, hr.evo.output, hr.evo.size, fun b hb hm => hr.evo.block b hb (fun h => h.elim (fun h => h.elim) (fun h => hm (.inr h)))⟩, h4 w (fun _ _ => rfl),
      fun b hb => by have hb := hL b hb; rw [hM] at hb; omega, fun i o ho => by simp at ho, Nat.le_refl _, fun b hb => ⟨(hr.rr b hb).1, fun hm => by rw [hM] at hm; subst hm; exact h2 hb, (hr.rr b hb).2.2⟩, hr.r0⟩
  refine wp_mono (h R0 w0 a w ⟨_, R, hrel⟩) ?_
  rintro e a' w' ⟨st', hk, ob', R', hr'⟩
  have hcb : w0.w.heap.size ≤ cb ∨ w0.G cb := hr.gb _ _ hid cb rfl
  refine ⟨st', hk, ob', R', hr'.defers, hr'.env, hr'.size, hr'.own, hr'.dist, ⟨hr'.evo.os, hr'.evo.tape, hr'.evo.output, hr'.evo.size, fun b hb hn => hr'.evo.block b hb (fun hm => by
    rcases hm with hm | hm
    · rw [hM] at hm
      subst hm
      rcases hcb with h9 | h9
      · omega
      · exact hn (.inr h9)
    · exact hn (.inr hm))⟩, trivial, fun b hb => hb.elim, hr'.gb, hr'.obw, fun b hb => ⟨(hr'.rr b hb).1, fun h => h, (hr'.rr b hb).2.2⟩, hr'.r0⟩
theorem Sat.region_at {st : St} {K : Exit → St → Prop} {id : Nat} {l : List Oper} (st2 : St) (h : ∀ k : St → Prop, (∀ st', Le st' st2 → k st') → WO P F (l.map (·.dst)) l st k) (hk : K .normal st2) : Sat P F (.region id l.toArray false) st K :=
  Sat.weak (Sat.region (h (fun st' => ∃ st2, K .normal st2 ∧ Le st' st2) fun st' hl => ⟨st2, hk, hl⟩))
theorem Sat.region_qat {st : St} {K : Exit → St → Prop} {id : Nat} {l : List Oper} (hm : P.follows .mixedOrders = true) (hB : Region.lexB .any l.toArray = true) (st2 : St) (h : ∀ k : St → Prop, (∀ st', Le st' st2 → k st') → WQ P (l.map (·.dst)) l st k) (hk : K .normal st2) : Sat P F (.region id l.toArray true) st K :=
  Sat.weak (Sat.region_q hm hB (h (fun st' => ∃ st2, K .normal st2 ∧ Le st' st2) fun st' hl => ⟨st2, hk, hl⟩))
def plainS : SV → Bool
  | .i _ _ => true
  | .b _ => true
  | .tt => true
  | .ff => true
  | .v _ => true
  | _ => false
theorem ok_plain {s : SV} (h : plainS s = true) (R : Nat → Prop) (w : World) : s.ok R w := by cases s <;> first | trivial | cases h
def tupL (l : List SV) : SV := .tup l.length fun j => l.getD j default
def aggL (l : List SV) : SV := .agg l.length fun j => l.getD j default
theorem ok_tupL {l : List SV} (h : l.all plainS = true) (R : Nat → Prop) (w : World) : (tupL l).ok R w := fun j hj => ok_plain (List.all_eq_true.1 h _ (getD_mem hj)) R w
theorem ok_aggL {l : List SV} (h : l.all plainS = true) (R : Nat → Prop) (w : World) : (aggL l).ok R w := fun j hj => ok_plain (List.all_eq_true.1 h _ (getD_mem hj)) R w
theorem getD_map_ro (l : List SV) (j : Nat) : ro own (l.getD j default) = (l.map (ro own)).getD j default := by
  simp only [List.getD, List.getElem?_map]
  cases l[j]? <;> rfl
theorem resOf_nil : resOf own [] = tupL [] := rfl
theorem resOf_one (x : SV) : resOf own [x] = ro own x := rfl
theorem resOf_two (x y : SV) : resOf own [x, y] = tupL [ro own x, ro own y] := by
  simp only [resOf, tupL, getD_map_ro]; rfl
theorem resOf_three (x y z : SV) : resOf own [x, y, z] = tupL [ro own x, ro own y, ro own z] := by
  simp only [resOf, tupL, getD_map_ro]; rfl
theorem ro_list (n : Nat) (l : List SV) : ro own (.agg n fun j => l.getD j default) = .agg n fun j => (l.map (roArg own)).getD j default := by
  simp only [ro]
  congr 1
  funext j
  simp only [List.getD, List.getElem?_map]
  cases l[j]? <;> rfl
theorem ro_i (k : IntKind) (n : Int) : ro own (.i k n) = .i k n := rfl
theorem ro_b (x : Bool) : ro own (.b x) = .b x := rfl
theorem ro_tt : ro own .tt = .b true := rfl
theorem ro_ff : ro own .ff = .b false := rfl
theorem ro_v (x : Value) : ro own (.v x) = .v x := rfl
theorem ro_sl (a : Option Addr) (len cap sz : Nat) (rd : Nat → Nat → SV) : ro own (.sl a len cap sz rd) = .sl a len cap sz rd := rfl
theorem ro_os (id : Nat) (a : Option Addr) (len cap : Nat) : ro own (.os id a len cap) = roArg own (.os id a len cap) := rfl
theorem ro_el (a : Addr) (n : Nat) (rd : Nat → SV) : ro own (.el a n rd) = .el a n rd := rfl
theorem ro_op (id blk off : Nat) : ro own (.op id blk off) = roArg own (.op id blk off) := rfl
theorem ro_fn (f : FuncId) (n : Nat) (rd : Nat → SV) : ro own (.fn f n rd) = roArg own (.fn f n rd) := rfl
theorem rExtract_tup (n : Nat) (rd : Nat → SV) (ix : Nat) : rExtract (some (.tup n rd)) ix = .cond (ix < n) (.val (rd ix)) := rfl
def WLk (P : Program) (F : Frm) (ds : List (Option Tmp)) (rest : List Oper) (dst : Option Tmp) (st : St) (mt : Option (Bool × List IntKind × IntKind)) (m s : Option SV) (c : Bool) (k : St → Prop) : Prop := WV P F ds rest dst st (rLook st.own mt m s c) k
theorem wo_lookup (t : TypeId) (m x : Operand) (c : Bool) : WO P F ds (⟨dst, .lookup t m x c, ty, pos, aft, none⟩ :: rest) ⟨n, env, own⟩ k = (dOk n dst ∧ WLk P F ds rest dst ⟨n, env, own⟩ (mapT P t) (ev env m) (ev env x) c k) := rfl
def WLs (P : Program) (F : Frm) (ds : List (Option Tmp)) (rest : List Oper) (dst : Option Tmp) (st : St) (vk : IntKind) (x : Option Int) (c : Bool) (k : St → Prop) : Prop := WV P F ds rest dst st (.val (lookS vk x c)) k
def WLo (P : Program) (F : Frm) (ds : List (Option Tmp)) (rest : List Oper) (dst : Option Tmp) (st : St) (c sc : Bool) (ks : List IntKind) (vk : IntKind) (blk : Nat) (o : Option Own) (q : Option (List IntKind × List Int)) (k : St → Prop) : Prop :=
  match o, q with
  | some (.mp blk' sc' ks' vk' f), some (ks2, l) => (blk' = blk ∧ sc' = sc ∧ ks' = ks ∧ vk' = vk ∧ ks2 = ks) ∧ WLs P F ds rest dst st vk (f l) c k
  | _, _ => False
theorem wlk_mp {st : St} (id blk : Nat) (s : SV) (sc c : Bool) (ks : List IntKind) (vk : IntKind) : WLk P F ds rest dst st (some (sc, ks, vk)) (some (.mp id blk)) (some s) c k = WLo P F ds rest dst st c sc ks vk blk st.own[id]? (keyS sc s) k := by
  simp only [WLk, WLo, rLook]
  cases st.own[id]? with
  | none => rfl
  | some o => cases o <;> first | rfl | (cases keyS sc s <;> rfl)
theorem wlo_some {st : St} (blk blk' : Nat) (sc sc' c : Bool) (ks ks' ks2 : List IntKind) (vk vk' : IntKind) (f : List Int → Option Int) (l : List Int) : WLo P F ds rest dst st c sc ks vk blk (some (.mp blk' sc' ks' vk' f)) (some (ks2, l)) k = ((blk' = blk ∧ sc' = sc ∧ ks' = ks ∧ vk' = vk ∧ ks2 = ks) ∧ WLs P F ds rest dst st vk (f l) c k) := rfl
theorem wls_two {st : St} (vk : IntKind) (x : Option Int) : WLs P F ds rest dst st vk x true k = ((∀ v, x = some v → WO P F ds rest (st.put dst (tupL [.i vk v, .tt])) k) ∧ (x = none → WO P F ds rest (st.put dst (tupL [.i vk 0, .ff])) k)) := by
  cases x with
  | none => exact propext ⟨fun h => ⟨fun v hv => (by cases hv), fun _ => h⟩, fun h => h.2 rfl⟩
  | some v => exact propext ⟨fun h => ⟨fun v' hv => (by cases hv; exact h), fun hv => (by cases hv)⟩, fun h => h.1 v rfl⟩
theorem wls_one {st : St} (vk : IntKind) (x : Option Int) : WLs P F ds rest dst st vk x false k = ((∀ v, x = some v → WO P F ds rest (st.put dst (.i vk v)) k) ∧ (x = none → WO P F ds rest (st.put dst (.i vk 0)) k)) := by
  cases x <;> simp [WLs, WV, VR.holds, lookS]
def WMp (P : Program) (F : Frm) (ds : List (Option Tmp)) (rest : List Oper) (dst : Option Tmp) (n : Nat) (env : List (Nat × SV)) (own : List Own) (mt : Option (Bool × List IntKind × IntKind)) (k : St → Prop) : Prop :=
  match mt with
  | some (sc, ks, vk) => ∀ blk : Nat, WO P F ds rest (St.put ⟨n, env, own ++ [.mp blk sc ks vk fun _ => none]⟩ dst (.mp own.length blk)) k
  | none => False
theorem wo_makeMap (t : TypeId) : WO P F ds (⟨dst, .makeMap t none, ty, pos, aft, none⟩ :: rest) ⟨n, env, own⟩ k = (dOk n dst ∧ WMp P F ds rest dst n env own (mapT P t) k) := rfl
theorem wmkp_some (sc : Bool) (ks : List IntKind) (vk : IntKind) : WMp P F ds rest dst n env own (some (sc, ks, vk)) k = ∀ blk : Nat, WO P F ds rest (St.put ⟨n, env, own ++ [.mp blk sc ks vk fun _ => none]⟩ dst (.mp own.length blk)) k := rfl
def WMu (P : Program) (F : Frm) (ds : List (Option Tmp)) (rest : List Oper) (dst : Option Tmp) (n : Nat) (env : List (Nat × SV)) (own : List Own) (mt : Option (Bool × List IntKind × IntKind)) (m s v : Option SV) (k : St → Prop) : Prop :=
  match m, s, v, mt with
  | some (.mp id blk), some s, some (.i vk2 y), some (sc, ks, vk) => (match own[id]?, keyS sc s with
    | some (.mp blk' sc' ks' vk' f), some (ks2, l) => (blk' = blk ∧ sc' = sc ∧ ks' = ks ∧ vk' = vk ∧ ks2 = ks ∧ vk2 = vk) ∧ WO P F ds rest (St.put ⟨n, env, own.set id (.mp blk' sc' ks' vk' (fPut f l y))⟩ dst (.v undef)) k
    | _, _ => False)
  | _, _, _, _ => False
theorem wo_mapUpdate (t : TypeId) (m x v : Operand) : WO P F ds (⟨dst, .mapUpdate t m x v, ty, pos, aft, none⟩ :: rest) ⟨n, env, own⟩ k = (dOk n dst ∧ WMu P F ds rest dst n env own (mapT P t) (ev env m) (ev env x) (ev env v) k) := rfl
def WMo (P : Program) (F : Frm) (ds : List (Option Tmp)) (rest : List Oper) (dst : Option Tmp) (n : Nat) (env : List (Nat × SV)) (own : List Own) (sc : Bool) (ks : List IntKind) (vk vk2 : IntKind) (y : Int) (id blk : Nat) (o : Option Own) (q : Option (List IntKind × List Int)) (k : St → Prop) : Prop :=
  match o, q with
  | some (.mp blk' sc' ks' vk' f), some (ks2, l) => (blk' = blk ∧ sc' = sc ∧ ks' = ks ∧ vk' = vk ∧ ks2 = ks ∧ vk2 = vk) ∧ WO P F ds rest (St.put ⟨n, env, own.set id (.mp blk' sc' ks' vk' (fPut f l y))⟩ dst (.v undef)) k
  | _, _ => False
theorem wmu_mp (id blk : Nat) (s : SV) (vk2 : IntKind) (y : Int) (sc : Bool) (ks : List IntKind) (vk : IntKind) : WMu P F ds rest dst n env own (some (sc, ks, vk)) (some (.mp id blk)) (some s) (some (.i vk2 y)) k = WMo P F ds rest dst n env own sc ks vk vk2 y id blk own[id]? (keyS sc s) k := rfl
theorem wmo_some (sc sc' : Bool) (ks ks' ks2 : List IntKind) (vk vk' vk2 : IntKind) (y : Int) (id blk blk' : Nat) (f : List Int → Option Int) (l : List Int) : WMo P F ds rest dst n env own sc ks vk vk2 y id blk (some (.mp blk' sc' ks' vk' f)) (some (ks2, l)) k = ((blk' = blk ∧ sc' = sc ∧ ks' = ks ∧ vk' = vk ∧ ks2 = ks ∧ vk2 = vk) ∧ WO P F ds rest (St.put ⟨n, env, own.set id (.mp blk' sc' ks' vk' (fPut f l y))⟩ dst (.v undef)) k) := rfl
theorem rExtract_tupL (l : List SV) (ix : Nat) : rExtract (some (tupL l)) ix = .cond (ix < l.length) (.val (l.getD ix default)) := rfl
theorem one_i (k : IntKind) (n : Int) : oneS (.i k n) = true := rfl
theorem one_b (x : Bool) : oneS (.b x) = true := rfl
theorem one_tt : oneS .tt = true := rfl
theorem one_ff : oneS .ff = true := rfl
theorem one_sl (a : Option Addr) (len cap sz : Nat) (rd : Nat → Nat → SV) : oneS (.sl a len cap sz rd) = true := rfl
theorem one_os (id : Nat) (a : Option Addr) (len cap : Nat) : oneS (.os id a len cap) = true := rfl
theorem one_op (id blk off : Nat) : oneS (.op id blk off) = true := rfl
theorem one_el (a : Addr) (n : Nat) (rd : Nat → SV) : oneS (.el a n rd) = true := rfl
theorem one_fn (f : FuncId) (n : Nat) (rd : Nat → SV) : oneS (.fn f n rd) = true := rfl
theorem one_str (s : ByteArray) : oneS (.v (.string s)) = true := rfl
theorem one_ptr (a : Option Addr) : oneS (.v (.pointer a)) = true := rfl
theorem one_map (r : Option Nat) : oneS (.v (.map r)) = true := rfl
theorem one_nilFunc : oneS (.v .nilFunc) = true := rfl
theorem one_nilIface : oneS (.v .nilIface) = true := rfl
theorem one_slice (a : Option Addr) (l c : Nat) : oneS (.v (.slice a l c)) = true := rfl
theorem one_agg (n : Nat) (rd : Nat → SV) : oneS (.agg n rd) = false := rfl
theorem w64 {x : Int} (h : -9223372036854775808 ≤ x ∧ x ≤ 9223372036854775807) : IntKind.i64.wrap x = x := IntWalk.i64_in _ h
/-! ### The same in a region that draws its order -/
def QV (P : Program) (ds : List (Option Tmp)) (rest : List Oper) (dst : Option Tmp) (st : St) (r : VR) (k : St → Prop) : Prop := r.holds fun s => WQ P ds rest (st.put dst s) k
theorem qv_val {st : St} (s : SV) : QV P ds rest dst st (.val s) k = WQ P ds rest (st.put dst s) k := rfl
theorem qv_cond {st : St} (p : Prop) (r : VR) : QV P ds rest dst st (.cond p r) k = (p ∧ QV P ds rest dst st r k) := rfl
theorem qv_fail {st : St} : QV P ds rest dst st .fail k = False := rfl
theorem wq_nil {st : St} : WQ P ds [] st k = k st := rfl
theorem wq_move (x : Operand) : WQ P ds (⟨dst, .move x, ty, pos, aft, none⟩ :: rest) ⟨n, env, own⟩ k = (dOk n dst ∧ QV P ds rest dst ⟨n, env, own⟩ (rOpt (ev env x)) k) := rfl
theorem wq_assign (x : Operand) : WQ P ds (⟨dst, .assign x, ty, pos, aft, none⟩ :: rest) ⟨n, env, own⟩ k = (dOk n dst ∧ QV P ds rest dst ⟨n, env, own⟩ (rOpt (ev env x)) k) := rfl
theorem wq_pick (c x y : Operand) : WQ P ds (⟨dst, .pick c x y, ty, pos, aft, none⟩ :: rest) ⟨n, env, own⟩ k = (dOk n dst ∧ QV P ds rest dst ⟨n, env, own⟩ (rPick (ev env c) (ev env x) (ev env y)) k) := rfl
theorem wq_bin (op : BinOp) (t t' : TypeId) (x y : Operand) : WQ P ds (⟨dst, .binOp op t x y t', ty, pos, aft, none⟩ :: rest) ⟨n, env, own⟩ k = (dOk n dst ∧ QV P ds rest dst ⟨n, env, own⟩ (rBinN P t op (ev env x) (ev env y) (nilC y)) k) := rfl
theorem wq_un (op : UnOp) (t : TypeId) (x : Operand) : WQ P ds (⟨dst, .unOp op t x, ty, pos, aft, none⟩ :: rest) ⟨n, env, own⟩ k = (dOk n dst ∧ QV P ds rest dst ⟨n, env, own⟩ (rUn op (ev env x)) k) := rfl
theorem wq_conv (s d : TypeId) (x : Operand) : WQ P ds (⟨dst, .convert s d x, ty, pos, aft, none⟩ :: rest) ⟨n, env, own⟩ k = (dOk n dst ∧ QV P ds rest dst ⟨n, env, own⟩ (rConv P own (tk P s) (tk P d) (ev env x)) k) := rfl
theorem wq_extract (x : Operand) (ix : Nat) : WQ P ds (⟨dst, .extract x ix, ty, pos, aft, none⟩ :: rest) ⟨n, env, own⟩ k = (dOk n dst ∧ QV P ds rest dst ⟨n, env, own⟩ (rExtract (ev env x) ix) k) := rfl
theorem wq_fieldAddr (t : TypeId) (x : Operand) (f : Nat) : WQ P ds (⟨dst, .fieldAddr t x f, ty, pos, aft, none⟩ :: rest) ⟨n, env, own⟩ k = (dOk n dst ∧ QV P ds rest dst ⟨n, env, own⟩ (rFieldAddr P (fieldOf P t f) (ev env x)) k) := rfl
theorem wq_nilCheck (x : Operand) : WQ P ds (⟨dst, .nilCheck x, ty, pos, aft, none⟩ :: rest) ⟨n, env, own⟩ k = (dOk n dst ∧ QV P ds rest dst ⟨n, env, own⟩ (rNilCheck (ev env x)) k) := rfl
theorem wq_index (t : TypeId) (x i : Operand) : WQ P ds (⟨dst, .index t x i, ty, pos, aft, none⟩ :: rest) ⟨n, env, own⟩ k = (dOk n dst ∧ QV P ds rest dst ⟨n, env, own⟩ (rIndex P (tk P t) (ev env x) (ev env i)) k) := rfl
theorem wq_field (t : TypeId) (x : Operand) (f : Nat) : WQ P ds (⟨dst, .field t x f, ty, pos, aft, none⟩ :: rest) ⟨n, env, own⟩ k = (dOk n dst ∧ QV P ds rest dst ⟨n, env, own⟩ (rField P (fieldOf P t f) (ev env x)) k) := rfl
theorem wq_indexAddr (t : TypeId) (x i : Operand) : WQ P ds (⟨dst, .indexAddr t x i, ty, pos, aft, none⟩ :: rest) ⟨n, env, own⟩ k = (dOk n dst ∧ QV P ds rest dst ⟨n, env, own⟩ (rIndexAddr P own (tk P t) (ev env x) (ev env i)) k) := rfl
theorem wq_load (t : TypeId) (x : Operand) : WQ P ds (⟨dst, .load t x, ty, pos, aft, none⟩ :: rest) ⟨n, env, own⟩ k = (dOk n dst ∧ QV P ds rest dst ⟨n, env, own⟩ (rLoad P own t (ev env x)) k) := rfl
theorem wq_slice (t : TypeId) (x : Operand) (lo hi : Option Operand) : WQ P ds (⟨dst, .slice t x lo hi none, ty, pos, aft, none⟩ :: rest) ⟨n, env, own⟩ k = (dOk n dst ∧ QV P ds rest dst ⟨n, env, own⟩ (rSlice P own env (tk P t) (ev env x) lo hi) k) := rfl
theorem wq_build (t : TypeId) (ps : List (Nat × Operand)) : WQ P ds (⟨dst, .build t ps.toArray, ty, pos, aft, none⟩ :: rest) ⟨n, env, own⟩ k = (dOk n dst ∧ QV P ds rest dst ⟨n, env, own⟩ (rBuild P t (fillS (placesOf P t) (tz P t) (ps.map fun p => (p.1, ev env p.2)))) k) := by
  simp only [WQ, stepQ, rOp, QV]; rfl
theorem wq_len (x : Operand) (t : TypeId) : WQ P ds (⟨dst, .call { callee := .builtin .len, args := #[x], argTypes := #[t] }, ty, pos, aft, none⟩ :: rest) ⟨n, env, own⟩ k = (dOk n dst ∧ QV P ds rest dst ⟨n, env, own⟩ (rLen (tk P t) (ev env x)) k) := rfl
theorem wq_max (x y : Operand) (ts : Array TypeId) : WQ P ds (⟨dst, .call { callee := .builtin .max, args := #[x, y], argTypes := ts }, ty, pos, aft, none⟩ :: rest) ⟨n, env, own⟩ k = (dOk n dst ∧ QV P ds rest dst ⟨n, env, own⟩ (rMax (ev env x) (ev env y)) k) := rfl
theorem wq_min (x y : Operand) (ts : Array TypeId) : WQ P ds (⟨dst, .call { callee := .builtin .min, args := #[x, y], argTypes := ts }, ty, pos, aft, none⟩ :: rest) ⟨n, env, own⟩ k = (dOk n dst ∧ QV P ds rest dst ⟨n, env, own⟩ (rMin (ev env x) (ev env y)) k) := rfl
def QCall (P : Program) (ds : List (Option Tmp)) (rest : List Oper) (dst : Option Tmp) (st : St) (f : FuncId) (l : Option (List SV)) (k : St → Prop) : Prop :=
  match l with
  | some l => CallQ P st f l fun s => WQ P ds rest (st.put dst s) k
  | none => False
theorem wq_call (f : FuncId) (args : List Operand) (ts : Array TypeId) : WQ P ds (⟨dst, .call { callee := .value (.func f), args := args.toArray, argTypes := ts }, ty, pos, aft, none⟩ :: rest) ⟨n, env, own⟩ k = (dOk n dst ∧ QCall P ds rest dst ⟨n, env, own⟩ f (evs env args) k) := by
  simp only [WQ, stepQ]; rfl
def QCallV (P : Program) (ds : List (Option Tmp)) (rest : List Oper) (dst : Option Tmp) (st : St) (g : Option SV) (l : Option (List SV)) (k : St → Prop) : Prop :=
  match g, l with
  | some (.fn f n rd), some l => CallQ P st f (l ++ (List.range n).map rd) fun s => WQ P ds rest (st.put dst s) k
  | _, _ => False
theorem wq_callv (t : Nat) (args : List Operand) (ts : Array TypeId) : WQ P ds (⟨dst, .call { callee := .value (.tmp t), args := args.toArray, argTypes := ts }, ty, pos, aft, none⟩ :: rest) ⟨n, env, own⟩ k = (dOk n dst ∧ QCallV P ds rest dst ⟨n, env, own⟩ (look env t) (evs env args) k) := by
  simp only [WQ, stepQ]; rfl
theorem qcallv_fn {f : FuncId} {m : Nat} {rd : Nat → SV} {l : List SV} {st : St} : QCallV P ds rest dst st (some (.fn f m rd)) (some l) k = QCall P ds rest dst st f (some (l ++ (List.range m).map rd)) k := rfl
theorem qcall {f : FuncId} {args args' : List SV} {st : St} {r : SV} (h : Contract Frm.nil P f args' (fun s => s = r)) (ha : args.map (roArg st.own) = args') (hp : ∀ R w, r.ok R w) (hk : WQ P ds rest (st.put dst r) k) : QCall P ds rest dst st f (some args) k :=
  ⟨r, by rw [ha]; exact h, hp, hk⟩
def QG (P : Program) (ds : List (Option Tmp)) (dst : Option Tmp) (op : Op) (rest : List Oper) (n : Nat) (env : List (Nat × SV)) (own : List Own) (want : Bool) (t : Option Tmp) (k : St → Prop) : Prop :=
  match t with
  | none => False
  | some t => match look env t with
    | some .tt => if want = true then WQ P ds (⟨dst, op, 0, "", #[], none⟩ :: rest) ⟨n, env, own⟩ k else dOk n dst ∧ WQ P ds rest (St.put ⟨n, env, own⟩ dst (.v undef)) k
    | some .ff => if want = false then WQ P ds (⟨dst, op, 0, "", #[], none⟩ :: rest) ⟨n, env, own⟩ k else dOk n dst ∧ WQ P ds rest (St.put ⟨n, env, own⟩ dst (.v undef)) k
    | some (.v (.tuple _)) => dOk n dst ∧ WQ P ds rest (St.put ⟨n, env, own⟩ dst (.v undef)) k
    | some (.b x) => t < n ∧ (x = true → if want = true then WQ P ds (⟨dst, op, 0, "", #[], none⟩ :: rest) ⟨n, (t, .tt) :: env, own⟩ k else dOk n dst ∧ WQ P ds rest (St.put ⟨n, (t, .tt) :: env, own⟩ dst (.v undef)) k) ∧
        (x = false → if want = false then WQ P ds (⟨dst, op, 0, "", #[], none⟩ :: rest) ⟨n, (t, .ff) :: env, own⟩ k else dOk n dst ∧ WQ P ds rest (St.put ⟨n, (t, .ff) :: env, own⟩ dst (.v undef)) k)
    | _ => False
theorem wq_guard (op : Op) (j : Nat) (want : Bool) : WQ P ds (⟨dst, op, ty, pos, aft, some (j, want)⟩ :: rest) ⟨n, env, own⟩ k = QG P ds dst op rest n env own want ((ds[j]?).bind id) k := by
  simp only [WQ, QG]
  cases (ds[j]?).bind id with
  | none => rfl
  | some t =>
    simp only []
    cases look env t with
    | none => rfl
    | some s => cases s <;> first | rfl | (rename_i x; cases x <;> rfl)
def QG2 (P : Program) (ds : List (Option Tmp)) (dst : Option Tmp) (op : Op) (rest : List Oper) (n : Nat) (env : List (Nat × SV)) (own : List Own) (want : Bool) (t : Tmp) (g : Option SV) (k : St → Prop) : Prop :=
  match g with
    | some .tt => if want = true then WQ P ds (⟨dst, op, 0, "", #[], none⟩ :: rest) ⟨n, env, own⟩ k else dOk n dst ∧ WQ P ds rest (St.put ⟨n, env, own⟩ dst (.v undef)) k
    | some .ff => if want = false then WQ P ds (⟨dst, op, 0, "", #[], none⟩ :: rest) ⟨n, env, own⟩ k else dOk n dst ∧ WQ P ds rest (St.put ⟨n, env, own⟩ dst (.v undef)) k
    | some (.v (.tuple _)) => dOk n dst ∧ WQ P ds rest (St.put ⟨n, env, own⟩ dst (.v undef)) k
    | some (.b x) => t < n ∧ (x = true → if want = true then WQ P ds (⟨dst, op, 0, "", #[], none⟩ :: rest) ⟨n, (t, .tt) :: env, own⟩ k else dOk n dst ∧ WQ P ds rest (St.put ⟨n, (t, .tt) :: env, own⟩ dst (.v undef)) k) ∧
        (x = false → if want = false then WQ P ds (⟨dst, op, 0, "", #[], none⟩ :: rest) ⟨n, (t, .ff) :: env, own⟩ k else dOk n dst ∧ WQ P ds rest (St.put ⟨n, (t, .ff) :: env, own⟩ dst (.v undef)) k)
    | _ => False
theorem qg_some (op : Op) (want : Bool) (t : Tmp) : QG P ds dst op rest n env own want (some t) k = QG2 P ds dst op rest n env own want t (look env t) k := by
  simp only [QG, QG2]
theorem qg_tt_true (op : Op) (t : Tmp) : QG2 P ds dst op rest n env own true t (some .tt) k = WQ P ds (⟨dst, op, 0, "", #[], none⟩ :: rest) ⟨n, env, own⟩ k := rfl
theorem qg_tt_false (op : Op) (t : Tmp) : QG2 P ds dst op rest n env own false t (some .tt) k = (dOk n dst ∧ WQ P ds rest (St.put ⟨n, env, own⟩ dst (.v undef)) k) := rfl
theorem qg_ff_true (op : Op) (t : Tmp) : QG2 P ds dst op rest n env own true t (some .ff) k = (dOk n dst ∧ WQ P ds rest (St.put ⟨n, env, own⟩ dst (.v undef)) k) := rfl
theorem qg_ff_false (op : Op) (t : Tmp) : QG2 P ds dst op rest n env own false t (some .ff) k = WQ P ds (⟨dst, op, 0, "", #[], none⟩ :: rest) ⟨n, env, own⟩ k := rfl
theorem qg_undef (op : Op) (want : Bool) (t : Tmp) : QG2 P ds dst op rest n env own want t (some (.v undef)) k = (dOk n dst ∧ WQ P ds rest (St.put ⟨n, env, own⟩ dst (.v undef)) k) := rfl
theorem qg_b (op : Op) (want : Bool) (t : Tmp) (x : Bool) : QG2 P ds dst op rest n env own want t (some (.b x)) k = (t < n ∧ (x = true → QG2 P ds dst op rest n ((t, .tt) :: env) own want t (some .tt) k) ∧ (x = false → QG2 P ds dst op rest n ((t, .ff) :: env) own want t (some .ff) k)) := rfl
end
end Eng
end Go.Proofs.YtpkmnggfomllhaaDoor
