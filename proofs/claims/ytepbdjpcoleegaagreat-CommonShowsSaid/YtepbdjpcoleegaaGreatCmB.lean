import Derived.Test.YtepbdjpcoleegaaGreatPk3
import Derived.Test.YtepbdjpcoleegaaGreatCmA
import Derived.Test.YtepbdjpcoleegaaGreatParSrt7

/- The keys of a map of pairs: maps.Keys, slices.Collect, slices.SortedFunc, by the evaluator. -/
set_option linter.unusedSimpArgs false
set_option linter.unusedVariables false
namespace Go.Proofs.YtepbdjpcoleegaaGreat
open Go.Sort Eng
def pmS (blk : Nat) (ps : List Par) (val : Nat → SV) : SV := .rm blk false [.u32, .u32] ps.length (fun i => (ps.getD i default).keys) val
theorem par_den (p : Par) : (parAg p).den = keyV false [.u32, .u32] p.keys := rfl
theorem par_ok (p : Par) (R : Nat → Prop) (w : World) : (parAg p).ok R w := fun j hj => by
 rcases (show j = 0 ∨ j = 1 by omega) with rfl | rfl <;> trivial
theorem seen_perm {ps : List Par} {seen : List Nat} (hn : seen.Nodup) (hl : ∀ i ∈ seen, i < ps.length) (ha : ∀ i, i < ps.length → i ∈ seen) : (seen.map fun i => ps.getD i default).Perm ps := by
 have h1 : seen.Perm (List.range ps.length) := (List.perm_ext_iff_of_nodup hn List.nodup_range).2 fun i => by
  rw [List.mem_range]
  exact ⟨hl i, ha i⟩
 refine (h1.map _).trans ?_
 have : (List.range ps.length).map (fun i => ps.getD i default) = ps := by
  apply List.ext_getElem
  ·simp
  ·intro i h1 h2
   simp only [List.length_map, List.length_range] at h1
   simp [List.getD, h1]
 rw [this]
theorem seen_len {ps : List Par} {seen : List Nat} (hn : seen.Nodup) (hl : ∀ i ∈ seen, i < ps.length) : seen.length ≤ ps.length := by
 have : seen.length ≤ (List.range ps.length).length := hn.length_le_of_subset fun i hi => List.mem_range.2 (hl i hi)
 simpa using this
set_option maxRecDepth 100000 in
theorem iterKeys {σ : Type} (F : Frm) (blk bx : Nat) (ps : List Par) (val : Nat → SV)
  (o0 o1 : σ → Eng.Own) (I : List Par → σ → Prop) (X : Code → List Par → σ → Prop) (l D nC : Nat) (envR : List (Nat × SV)) (q : Tmp) (assign body : Code) (s0 : σ) (h0 : I [] s0)
  (hy : ∀ (pre : List Par) (d : Par) (s : σ) (k : St → Prop) (n : Nat) (env : List (Nat × SV)) (x y : Eng.Own) (dst : Option Tmp), pre.length < ps.length → I pre s →
   (∀ s' tl', I (pre ++ [d]) s' → k ((⟨n, env, o0 s' :: o1 s' :: .res D (defP D) :: recO l .ready none envR nC #[q] assign body D :: (x :: y :: tl')⟩ : St).put dst .tt)) →
   (∀ s' tl' pd, X pd (pre ++ [d]) s' → k ((⟨n, env, o0 s' :: o1 s' :: .res D (defP D) :: recO l .done (some pd) envR nC #[q] assign body D :: (x :: y :: tl')⟩ : St).put dst .ff)) →
   YieldK Tryz.prog F l [parAg d] ⟨n, env, o0 s :: o1 s :: .res D (defP D) :: recO l .ready none envR nC #[q] assign body D :: [x, y]⟩ dst k) :
  ∃ c, Tryz.f67.body = some c ∧ SatJ Tryz.prog F none c [] ⟨Tryz.f67.ntmps, argEnv 0 [.v (.func (.yield l) #[] #[]), .el ⟨bx, 0, none⟩ 1 fun j => [pmS blk ps val].getD j default], o0 s0 :: o1 s0 :: .res D (defP D) :: recO l .ready none envR nC #[q] assign body D :: []⟩
   (fun e ds st' => (e = .normal ∨ e = .ret) ∧ ds = [] ∧ ((∃ L s tl, L.Perm ps ∧ I L s ∧ st'.own = o0 s :: o1 s :: .res D (defP D) :: recO l .ready none envR nC #[q] assign body D :: tl) ∨
    (∃ s tl pre pd, X pd pre s ∧ st'.own = o0 s :: o1 s :: .res D (defP D) :: recO l .done (some pd) envR nC #[q] assign body D :: tl))) := by
 simp only [Tryz.ntmps67, argEnv, pmS]
 refine ⟨_, rfl, ?_⟩
 have hT : mqT Tryz.prog 82 = some (false, [.u32, .u32], 26) := by kernel_rfl
 (repeat refine SatJ.seq ?_)
 (refine SatJ.region_k fun k hk => ?_; simp -implicitDefEqProofs only [evr, id, seval, par_one, List.cons_append, List.nil_append, pmS, rExtract_tup, evn])
 refine rangeMq hT (mqIn_rm rfl) (show 5 < 14 by decide) fun it => ?_
 simp -implicitDefEqProofs only [evr, id, seval, par_one, List.cons_append, List.nil_append, pmS, rExtract_tup, evn]
 (refine hk _ ?_; clear hk k; try show SatJ _ _ _ _ _ _ _)
 refine SatJ.block ?_
 refine SatJ.loop (ι := List Nat × σ) (fun x => ⟨14, [(5, .v (.pointer (some ⟨it, 0, none⟩))), (4, .rm blk false [.u32, .u32] ps.length (fun i => (ps.getD i default).keys) val), (0, .v (.func (.yield l) #[] #[]))],
   o0 x.2 :: o1 x.2 :: .res D (defP D) :: recO l .ready none envR nC #[q] assign body D :: [.res it (IterMap it blk ps.length x.1)]⟩)
  (fun x => x.1.Nodup ∧ (∀ i ∈ x.1, i < ps.length) ∧ I (x.1.map fun i => ps.getD i default) x.2) (fun x => ps.length - x.1.length) ([], s0) ⟨List.nodup_nil, fun i hi => (by cases hi), h0⟩ (by
   simp -implicitDefEqProofs only [evr, id, seval, par_one, List.cons_append, List.nil_append, pmS, rExtract_tup, evl, evn]
   exact ⟨own_le _, own_le _⟩) ?_
 rintro ⟨seen, s⟩ ⟨hnd, hsl, hI⟩
 simp only at hnd hsl hI ⊢
 (repeat refine SatJ.seq ?_)
 (refine SatJ.region_k fun k hk => ?_; simp -implicitDefEqProofs only [evr, id, seval, par_one, List.cons_append, List.nil_append, pmS, rExtract_tup, evn])
 refine nextMq (oid := 4) rfl rfl rfl (mqIn_rm (m := .tmp 4) rfl) (fun i => parAg (ps.getD i default)) (fun i _ => par_den _) (fun i R w => par_ok _ R w) (show 6 < 14 by decide) (fun i hi hs => ?_) (fun ha => ?_)
 ·simp -implicitDefEqProofs only [evr, id, seval, par_one, List.cons_append, List.nil_append, pmS, rExtract_tup, evn]
  have hmem : ps.getD i default ∈ ps := by
   have : ps.getD i default = ps[i]'hi := by simp [List.getD, hi]
   rw [this]; exact List.getElem_mem _
  have hnd2 : (seen ++ [i]).Nodup := by
   rw [List.nodup_append]
   exact ⟨hnd, by simp, fun a ha b hb => by rw [List.mem_singleton] at hb; subst hb; exact fun e => hs (e ▸ ha)⟩
  have hsl2 : ∀ j ∈ seen ++ [i], j < ps.length := fun j hj => by
   rcases List.mem_append.1 hj with hj | hj
   ·exact hsl j hj
   ·rw [List.mem_singleton] at hj; subst hj; exact hi
  have hlen := seen_len hnd2 hsl2
  rw [List.length_append, List.length_singleton] at hlen
  have hmap : (seen ++ [i]).map (fun i => ps.getD i default) = seen.map (fun i => ps.getD i default) ++ [ps.getD i default] := by rw [List.map_append]; rfl
  (refine hk _ ?_; clear hk k; try show SatJ _ _ _ _ _ _ _)
  (repeat refine SatJ.seq ?_)
  refine SatJ.cond_tt rfl ?_
  refine SatJ.skip ?_
  simp only [thenJ]
  (repeat refine SatJ.seq ?_)
  refine SatJ.block ?_
  (repeat refine SatJ.seq ?_)
  (refine SatJ.region_k fun k hk => ?_; simp -implicitDefEqProofs only [evr, id, seval, par_one, List.cons_append, List.nil_append, pmS, rExtract_tup, evn])
  refine entryIterMq (oid := 4) (seen := seen) rfl rfl hi (mqIn_rm (m := .tmp 4) rfl) (fun i => parAg (ps.getD i default)) (par_den _) (fun R w => par_ok _ R w) (show 8 < 14 by decide) ?_
  simp only [parAg, Par.cs, evr, id, seval, List.append_nil, Int.toNat_zero, Nat.sub_self, par_one, List.cons_append, List.nil_append, pmS, rExtract_tup]
  intro b3
  (refine hk _ ?_; clear hk k; try show SatJ _ _ _ _ _ _ _)
  generalize ps.getD i default = d at hmem hmap
  (repeat refine SatJ.seq ?_)
  refine SatJ.region_wl fun k hk => ?_
  refine WL.wo [_, _] [_, _] ?_
  simp -implicitDefEqProofs only [evr, id, seval, par_one, List.cons_append, List.nil_append, pmS, rExtract_tup, List.toList_toArray, evn]
  refine WL.yield0 rfl (show 12 < 14 by decide) (stepY_mk rfl ?_)
  refine hy (seen.map fun i => ps.getD i default) d s _ _ _ _ _ _ (by rw [List.length_map]; omega) hI (fun s' tl' hI' => ?_) (fun s' tl' pd hX => ?_)
  ·refine WL.wo [_] [] ?_
   simp -implicitDefEqProofs only [evr, id, seval, par_one, List.cons_append, List.nil_append, pmS, rExtract_tup, List.toList_toArray, evn]
   refine WL.nil (hk _ ?_)
   clear hk k
   refine SatJ.cond_ff rfl ?_
   refine SatJ.skip ?_
   simp only [thenJ, blockJ]
   refine ⟨trivial, (seen ++ [i], s'), ⟨hnd2, hsl2, by rw [hmap]; exact hI'⟩, by simp only [List.length_append, List.length_singleton]; omega, ?_⟩
   simp -implicitDefEqProofs only [evr, id, seval, par_one, List.cons_append, List.nil_append, pmS, rExtract_tup, evl, evn]
   exact ⟨own_le _, own_le _⟩
  ·refine WL.wo [_] [] ?_
   simp -implicitDefEqProofs only [evr, id, seval, par_one, List.cons_append, List.nil_append, pmS, rExtract_tup, List.toList_toArray, evn]
   refine WL.nil (hk _ ?_)
   clear hk k
   refine SatJ.cond_tt rfl ?_
   refine SatJ.ret ?_
   simp only [thenJ, blockJ]
   exact ⟨.inr trivial, trivial, .inr ⟨s', _, _, pd, hX, rfl⟩⟩
 ·simp -implicitDefEqProofs only [evr, id, seval, par_one, List.cons_append, List.nil_append, pmS, rExtract_tup, evn]
  (refine hk _ ?_; clear hk k; try show SatJ _ _ _ _ _ _ _)
  (repeat refine SatJ.seq ?_)
  refine SatJ.cond_ff rfl ?_
  refine SatJ.exit ?_
  simp only [thenJ, blockJ, reduceIte]
  exact ⟨.inl trivial, trivial, .inl ⟨_, s, _, seen_perm hnd hsl ha, hI, rfl⟩⟩
structure KSt where
 out : List Par
 a : Option Addr
 cap : Nat
theorem par_app {ys : List Par} {x : Par} {cs : List SV} (h : cs = Par.cs x) : rdEq (ys.length + 1) 2 (rdCat ys.length (parRd ys.toArray) (rdL cs 2)) (parRd (ys ++ [x]).toArray) := by
 subst h
 refine rdEq_snoc (fun i j hi hj => ?_) (fun j hj => ?_)
 ·unfold parRd
  simp [getElem!_def, List.getElem?_append, hi]
 ·unfold parRd
  simp [getElem!_def]
set_option maxRecDepth 100000 in
theorem appSeqKC (F : Frm) (blk bx : Nat) (ps : List Par) (val rd : Nat → SV) (hrd : rd 0 = .el ⟨bx, 0, none⟩ 1 fun j => [pmS blk ps val].getD j default) (hlen : ps.length ≤ 1000000) :
  ContractN F Tryz.prog 78 [.sl none 0 0 0 fun _ _ => .v undef, .fn 67 1 rd] (fun o => ∃ (a : Option Addr) (cap : Nat) (L : List Par), L.Perm ps ∧ o = parRow a L.length cap L.toArray) := by
 refine contractJN_of Tryz.func78 rfl (by kernel_rfl) ?_
 simp only [Tryz.ntmps78, argEnv]
 (repeat refine SatJ.seq ?_)
 (refine SatJ.region_k fun k hk => ?_; simp -implicitDefEqProofs only [evr, id, seval, par_one, List.cons_append, List.nil_append, pmS, rExtract_tup, evn])
 intro b2
 (refine hk _ ?_; clear hk k; try show SatJ _ _ _ _ _ _ _)
 refine SatJ.adoptBox 0 0 45 2 (parRd #[]) rfl rfl ?_
 simp -implicitDefEqProofs only [evr, id, seval, par_one, List.cons_append, List.nil_append, pmS, rExtract_tup, evn]
 (repeat refine SatJ.seq ?_)
 (refine SatJ.region_k fun k hk => ?_; simp -implicitDefEqProofs only [evr, id, seval, par_one, List.cons_append, List.nil_append, pmS, rExtract_tup, evn]; refine hk _ ?_; clear hk k; try show SatJ _ _ _ _ _ _ _)
 refine SatJ.block ?_
 refine SatJ.rangeFuncG [(2, .op 0 b2 0)] rfl Tryz.func67 rfl (by kernel_rfl) rfl (by simp -implicitDefEqProofs only [evr, id, seval, par_one, List.cons_append, List.nil_append, pmS, rExtract_tup, evl, evn]) ?_
 intro asg bo has hbo l D
 have hit0 := iterKeys F blk bx ps val (σ := KSt)
  (fun s => .box b2 83 [.os 1 s.a s.out.length s.cap]) (fun s => parRow s.a s.out.length s.cap s.out.toArray)
  (fun pre s => s.out = pre)
  (fun pd pre s => False)
  l D 13 [(2, .op 0 b2 0)] 7 asg bo ⟨[], none, 0⟩ rfl
 refine (fun hy => ?_ : (_ → _)) (hit0 ?_)
 ·obtain ⟨c, hc, hit⟩ := hy
  have hc2 := Option.some.inj hc
  subst hc2
  simp only [show List.range 1 = [0] from rfl, List.map_cons, List.map_nil, hrd, List.cons_append, List.nil_append]
  refine hit.mono ?_
  clear hit hit0 hc
  rintro e ds st' ⟨he1, rfl, hcase⟩
  unfold iterK
  refine ⟨he1, rfl, ?_⟩
  rcases hcase with ⟨L, s, tl, hperm, hs1, hown⟩ | ⟨s, tl, pre, pd, hff, _⟩
  ·refine ⟨.ready, none, by decide, by rw [hown]; rfl, ?_⟩
   simp only [thenJ, blockJ, hown, parRow, List.length_cons, List.length_nil, List.set_cons_succ, List.set_cons_zero, if_true]
   (repeat refine SatJ.seq ?_)
   (refine SatJ.region_k fun k hk => ?_; simp -implicitDefEqProofs only [evr, id, seval, par_one, List.cons_append, List.nil_append, pmS, rExtract_tup, evn]; refine hk _ ?_; clear hk k; try show SatJ _ _ _ _ _ _ _)
   refine SatJ.ret ?_
   refine ⟨.inr rfl, D, 2, rfl, rfl, ?_⟩
   simp only [Tryz.results78, evr, id, seval, List.append_nil, Int.toNat_zero, Nat.sub_self, par_one, List.cons_append, List.nil_append, pmS, rExtract_tup]
   rw [hs1]
   exact ⟨⟨rfl, rfl, rfl⟩, s.a, s.cap, L, hperm, rfl⟩
  ·exact hff.elim
 ·intro pre d s kk n env x y dst hlt hs1 ht hf
  refine yieldK_of (i := 3) rfl (show 7 < 13 by decide) (plain_cons (fun _ _ => trivial) plain_nil) ?_
  refine SatJ.code has ?_
  simp only [parAg, Par.cs, parRow]
  (refine SatJ.region_k fun k hk => ?_; simp -implicitDefEqProofs only [evr, id, seval, par_one, List.cons_append, List.nil_append, pmS, rExtract_tup, evn])
  intro b8
  (refine hk _ ?_; clear hk k; try show SatJ _ _ _ _ _ _ _)
  refine ⟨rfl, rfl, ?_⟩
  refine SatJ.code hbo ?_
  simp only [List.set_cons_succ, List.set_cons_zero]
  refine SatJ.block ?_
  refine SatJ.post_le ?_
  have hlo : s.out.length ≤ 1000000 := by rw [hs1]; omega
  (refine SatJ.region_k fun k hk => ?_; simp -implicitDefEqProofs only [evr, id, seval, par_one, List.cons_append, List.nil_append, pmS, rExtract_tup, evn])
  intro blk2
  refine ⟨⟨by unfold maxLen; omega, by omega⟩, fun a2 cap2 => hk _ ?_⟩
  clear hk k
  simp only [thenJ, blockJ, jumpOf]
  refine ⟨⟨13, [], [.box b2 83 [.os 1 a2 (s.out ++ [d]).length cap2], parRow a2 (s.out ++ [d]).length cap2 (s.out ++ [d]).toArray, .res D (defP D),
   recO l .busy none [(2, .op 0 b2 0)] 13 #[7] asg bo D, x, y, .box b8 45 (Par.cs d)]⟩,
   ⟨rfl, trivial, ⟨rfl, rfl, by simp⟩, ⟨rfl, rfl, by simp, rfl, rfl, par_app rfl⟩, own_le _, own_le _, own_le _, own_le _, own_le _, trivial⟩, rfl, ?_⟩
  exact ht ⟨s.out ++ [d], a2, cap2⟩ [_] (by rw [← hs1])
set_option maxRecDepth 100000 in
theorem collectKC (F : Frm) (blk bx : Nat) (ps : List Par) (val rd : Nat → SV) (hrd : rd 0 = .el ⟨bx, 0, none⟩ 1 fun j => [pmS blk ps val].getD j default) (hlen : ps.length ≤ 1000000) :
  ContractN F Tryz.prog 65 [.fn 67 1 rd] (fun o => ∃ (a : Option Addr) (cap : Nat) (L : List Par), L.Perm ps ∧ o = parRow a L.length cap L.toArray) := by
 refine contractN_of Tryz.func65 rfl (by kernel_rfl) ?_
 simp only [Tryz.ntmps65, argEnv]
 (repeat refine Sat.seq ?_)
 (refine Sat.region_k fun k hk => ?_; simp -implicitDefEqProofs only [evr, id, seval, par_one, List.cons_append, List.nil_append, pmS, rExtract_tup, evn]; refine hk _ ?_; clear hk k; try show Sat _ _ _ _ _)
 (repeat refine Sat.seq ?_)
 (refine Sat.region_k fun k hk => ?_; simp -implicitDefEqProofs only [evr, id, seval, par_one, List.cons_append, List.nil_append, pmS, rExtract_tup, evn])
 refine wcall_new (appSeqKC F blk bx ps val rd hrd hlen) rfl (by simp -implicitDefEqProofs only [evr, id, seval, par_one, List.cons_append, List.nil_append, pmS, rExtract_tup, evn]; try rfl) ?_
 rintro a ty len cap sz rd2 ⟨a2, cap2, L, hp, e⟩
 simp only [parRow, Eng.Own.row.injEq] at e
 obtain ⟨rfl, rfl, rfl, rfl, rfl, rfl⟩ := e
 simp -implicitDefEqProofs only [evr, id, seval, par_one, List.cons_append, List.nil_append, pmS, rExtract_tup, evn]
 (refine hk _ ?_; clear hk k; try show Sat _ _ _ _ _)
 refine Sat.ret ?_
 simp only [Tryz.results65, evr, id, seval, List.append_nil, Int.toNat_zero, Nat.sub_self, par_one, List.cons_append, List.nil_append, pmS, rExtract_tup]
 exact ⟨⟨rfl, rfl, rfl⟩, _, _, L, hp, rfl⟩
theorem par_sorted {L : List Par} {d' : Array Par} (hd : d'.size = L.length) (hp : PermIn 0 L.length L.toArray d') (hs : SortedIn parLt 0 L.length d') : d'.toList.Perm L ∧ d'.toList.Pairwise fun a b => parLt b a = false := by
 have h := hp.2.2
 have e1 : (d'.extract 0 L.length) = d' := by rw [← hd]; simp
 have e2 : (L.toArray.extract 0 L.length) = L.toArray := by simp
 rw [e1, e2] at h
 refine ⟨?_, ?_⟩
 ·simpa using h
 ·rw [List.pairwise_iff_getElem]
  intro i j hi hj hij
  have hi' : i < d'.size := by simpa using hi
  have hj' : j < d'.size := by simpa using hj
  have := hs i j (Nat.zero_le _) hij (by omega)
  simpa [getElem!_def, hi', hj'] using this
def ParSorted (ps L : List Par) : Prop := L.Perm ps ∧ L.Pairwise fun a b => parLt b a = false
set_option maxRecDepth 100000 in
theorem sortedKC (F : Frm) (blk bx : Nat) (ps : List Par) (val rd : Nat → SV) (rdc : Nat → SV) (hrd : rd 0 = .el ⟨bx, 0, none⟩ 1 fun j => [pmS blk ps val].getD j default) (hlen : ps.length ≤ 1000000) :
  ContractN F Tryz.prog 40 [.fn 67 1 rd, .fn 42 0 rdc] (fun o => ∃ (a : Option Addr) (cap : Nat) (L : List Par), ParSorted ps L ∧ o = parRow a L.length cap L.toArray) := by
 refine contractN_of Tryz.func40 rfl (by kernel_rfl) ?_
 simp only [Tryz.ntmps40, argEnv]
 (repeat refine Sat.seq ?_)
 (refine Sat.region_k fun k hk => ?_; simp -implicitDefEqProofs only [evr, id, seval, par_one, List.cons_append, List.nil_append, pmS, rExtract_tup, evn]; refine hk _ ?_; clear hk k; try show Sat _ _ _ _ _)
 (repeat refine Sat.seq ?_)
 (refine Sat.region_k fun k hk => ?_; simp -implicitDefEqProofs only [evr, id, seval, par_one, List.cons_append, List.nil_append, pmS, rExtract_tup, evn])
 refine wcall_new (collectKC F blk bx ps val rd hrd hlen) rfl (by simp -implicitDefEqProofs only [evr, id, seval, par_one, List.cons_append, List.nil_append, pmS, rExtract_tup, evn]; try rfl) ?_
 rintro a ty len cap sz rd2 ⟨a2, cap2, L, hp, e⟩
 simp only [parRow, Eng.Own.row.injEq] at e
 obtain ⟨rfl, rfl, rfl, rfl, rfl, rfl⟩ := e
 simp -implicitDefEqProofs only [evr, id, seval, par_one, List.cons_append, List.nil_append, pmS, rExtract_tup, evn]
 (refine hk _ ?_; clear hk k; try show Sat _ _ _ _ _)
 (repeat refine Sat.seq ?_)
 (refine Sat.region_k fun k hk => ?_; simp -implicitDefEqProofs only [evr, id, seval, par_one, List.cons_append, List.nil_append, pmS, rExtract_tup, evn])
 have hll : L.length = ps.length := hp.length_eq
 refine wcall_mut 0 (parSortC F parLt_swo parCmp1 a cap L.length (by omega) L.toArray (by simp)) rfl rfl ?_
 rintro r o1 ⟨rfl, d', hd', ⟨hperm, hsort⟩, rfl⟩
 simp -implicitDefEqProofs only [evr, id, seval, par_one, List.cons_append, List.nil_append, pmS, rExtract_tup, evn]
 (refine hk _ ?_; clear hk k; try show Sat _ _ _ _ _)
 (repeat refine Sat.seq ?_)
 (refine Sat.region_k fun k hk => ?_; simp -implicitDefEqProofs only [evr, id, seval, par_one, List.cons_append, List.nil_append, pmS, rExtract_tup, evn]; refine hk _ ?_; clear hk k; try show Sat _ _ _ _ _)
 refine Sat.ret ?_
 simp only [Tryz.results40, evr, id, seval, List.append_nil, Int.toNat_zero, Nat.sub_self, par_one, List.cons_append, List.nil_append, pmS, rExtract_tup, parRow, retN, retNK, newRow]
 obtain ⟨g1, g2⟩ := par_sorted hd' hperm hsort
 have hlen' : d'.toList.length = L.length := by simp [hd']
 refine ⟨⟨rfl, rfl, rfl⟩, a, cap, d'.toList, ⟨g1.trans hp, g2⟩, ?_⟩
 rw [hlen', Array.toArray_toList]
theorem ev_nilFunc (env : List (Nat × SV)) : ev env (.const .nilFunc) = some (.v .nilFunc) := rfl
theorem one_rm (blk : Nat) (sc : Bool) (ks : List IntKind) (n : Nat) (key : Nat → List Int) (val : Nat → SV) : oneS (.rm blk sc ks n key val) = true := rfl
set_option maxRecDepth 100000 in
theorem keysC (F : Frm) (blk : Nat) (ps : List Par) (val : Nat → SV) : Contract F Tryz.prog 41 [pmS blk ps val] (fun r => ∃ bx rd, r = .fn 67 1 rd ∧ rd 0 = .el ⟨bx, 0, none⟩ 1 fun j => [pmS blk ps val].getD j default) := by
 refine contract_of Tryz.func41 rfl (by kernel_rfl) ?_
 simp only [Tryz.ntmps41, argEnv, pmS]
 (repeat refine Sat.seq ?_)
 (refine Sat.region_k fun k hk => ?_; simp -implicitDefEqProofs only [evr, id, seval, par_one, List.cons_append, List.nil_append, pmS, rExtract_tup, one_rm, ev_nilFunc, evn])
 intro b1
 (refine hk _ ?_; clear hk k; try show Sat _ _ _ _ _)
 (repeat refine Sat.seq ?_)
 (refine Sat.region_k fun k hk => ?_; simp -implicitDefEqProofs only [evr, id, seval, par_one, List.cons_append, List.nil_append, pmS, rExtract_tup, evn]; refine hk _ ?_; clear hk k; try show Sat _ _ _ _ _)
 refine Sat.ret ?_
 simp only [Tryz.results41, evr, id, seval, List.append_nil, Int.toNat_zero, Nat.sub_self, par_one, List.cons_append, List.nil_append, pmS, rExtract_tup]
 refine ⟨b1, _, rfl, ?_⟩
 simp [roPtr]
end Go.Proofs.YtepbdjpcoleegaaGreat
