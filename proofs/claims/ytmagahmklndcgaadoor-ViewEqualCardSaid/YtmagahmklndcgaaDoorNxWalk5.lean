/- One step at a time: the operations still lacking. -/
import Derived.Test.YtmagahmklndcgaaDoorNxWalk4
namespace Go.Proofs.YtmagahmklndcgaaDoor.Nx
set_option linter.unusedSimpArgs false
set_option linter.unusedVariables false
set_option linter.unnecessarySimpa false
open Go

variable {Γ : Ctx} {P : Program} {F : Fns} {pl : Option Nat} {ev : XO → A} {h : Heap} {K : A → Heap → Prop}

def AaddrB (e : Elt) (len : Nat) (h : Heap) (K : A → Heap → Prop) (id N i off : Nat) (n : Int) : Option HB → Prop
  | some (.cells _ rows) => N = rows.length ∧ 0 ≤ n ∧ n < len ∧ K (.ptr id N i (off + n.toNat * e.sz)) h
  | _ => False
def Aaddr (e : Elt) (len : Nat) (h : Heap) (K : A → Heap → Prop) : A → A → Prop
  | .ptr id N i off, .d (.sc (.int _ n)) => AaddrB e len h K id N i off n h[id]?
  | .iptr cs, .d (.sc (.int _ n)) => 0 ≤ n ∧ n < len ∧ K (.iptr (cs.drop (n.toNat * e.sz))) h
  | _, _ => False
theorem x_aaddr {e : Elt} {len : Nat} {x i : XO} : exec F pl (.aaddr e len x i) ev h K = Aaddr e len h K (ev x) (ev i) := by
  simp only [exec, Aaddr]
  generalize ev x = a
  generalize ev i = b
  rcases a with _ | _ | (v | _) | _ | _ | _ | _ | _ | _ | _ | _ <;> try rfl
theorem aa_ptr {e : Elt} {len id N i off : Nat} {k : IntKind} {n : Int} : Aaddr e len h K (.ptr id N i off) (.d (.sc (.int k n))) = AaddrB e len h K id N i off n h[id]? := Eq.trans rfl rfl
theorem aa_iptr {e : Elt} {len : Nat} {cs : List D} {k : IntKind} {n : Int} : Aaddr e len h K (.iptr cs) (.d (.sc (.int k n))) = (0 ≤ n ∧ n < len ∧ K (.iptr (cs.drop (n.toNat * e.sz))) h) := Eq.trans rfl rfl
theorem aa_b {e e' : Elt} {rows : List (List A)} {len id N i off : Nat} {n : Int} : AaddrB e len h K id N i off n (some (.cells e' rows)) = (N = rows.length ∧ 0 ≤ n ∧ n < len ∧ K (.ptr id N i (off + n.toNat * e.sz)) h) := Eq.trans rfl rfl

def Aidx (len n : Nat) (g : Bool) (h : Heap) (K : A → Heap → Prop) : A → A → Prop
  | .agg cs, .d (.sc (.int _ m)) => 0 ≤ m ∧ m < len ∧ LoadC n h K g (cs.drop (m.toNat * n))
  | _, _ => False
theorem x_aidx {len n : Nat} {g : Bool} {x i : XO} : exec F pl (.aidx len n g x i) ev h K = Aidx len n g h K (ev x) (ev i) := by
  simp only [exec, Aidx, loadC_eq]
  generalize ev x = a
  generalize ev i = b
  cases a <;> rfl
theorem ai_agg {len n : Nat} {g : Bool} {cs : List A} {k : IntKind} {m : Int} : Aidx len n g h K (.agg cs) (.d (.sc (.int k m))) = (0 ≤ m ∧ m < len ∧ LoadC n h K g (cs.drop (m.toNat * n))) := Eq.trans rfl rfl

def NilckB (h : Heap) (K : A → Heap → Prop) (id N i off : Nat) : Option HB → Prop
  | some (.cells _ rows) => N = rows.length ∧ K (.ptr id N i off) h
  | _ => False
def Nilck (h : Heap) (K : A → Heap → Prop) : A → Prop
  | .ptr id N i off => NilckB h K id N i off h[id]?
  | .iptr cs => K (.iptr cs) h
  | .fn f caps => K (.fn f caps) h
  | _ => False
theorem x_nilck {x : XO} : exec F pl (.nilck x) ev h K = Nilck h K (ev x) := by
  simp only [exec, Nilck]
  generalize ev x = a
  cases a with
  | ptr id N i off =>
    dsimp only
    generalize h[id]? = o
    rcases o with _ | (⟨e, rows⟩ | _ | _) <;> rfl
  | _ => rfl
theorem nk_ptr {id N i off : Nat} : Nilck h K (.ptr id N i off) = NilckB h K id N i off h[id]? := Eq.trans rfl rfl
theorem nk_iptr {cs : List D} : Nilck h K (.iptr cs) = K (.iptr cs) h := Eq.trans rfl rfl
theorem nk_fn {f : FuncId} {caps : List A} : Nilck h K (.fn f caps) = K (.fn f caps) h := Eq.trans rfl rfl
theorem nk_b {id N i off : Nat} {e : Elt} {rows : List (List A)} : NilckB h K id N i off (some (.cells e rows)) = (N = rows.length ∧ K (.ptr id N i off) h) := Eq.trans rfl rfl

def S2r (e : Elt) (h : Heap) (K : A → Heap → Prop) : A → Prop
  | .d (.sc (.string s)) => (runesOf s).length * e.bytes ≤ room ∧ K (.d (.sl e ((runesOf s).map runeRow))) h
  | _ => False
theorem x_s2r {e : Elt} {x : XO} : exec F pl (.s2r e x) ev h K = S2r e h K (ev x) := by
  simp only [exec, S2r]
  generalize ev x = a
  rcases a with _ | _ | (v | _) | _ | _ | _ | _ | _ | _ | _ | _ <;> try rfl
theorem s2_s {e : Elt} {s : ByteArray} : S2r e h K (.d (.sc (.string s))) = ((runesOf s).length * e.bytes ≤ room ∧ K (.d (.sl e ((runesOf s).map runeRow))) h) := Eq.trans rfl rfl

def I2s (h : Heap) (K : A → Heap → Prop) : A → Prop
  | .d (.sc (.int _ n)) => K (.str (Utf8.encode n)) h
  | _ => False
theorem x_i2s {x : XO} : exec F pl (.i2s x) ev h K = I2s h K (ev x) := by
  simp only [exec, I2s]
  generalize ev x = a
  rcases a with _ | _ | (v | _) | _ | _ | _ | _ | _ | _ | _ | _ <;> try rfl
theorem i2_i {k : IntKind} {n : Int} : I2s h K (.d (.sc (.int k n))) = K (.str (Utf8.encode n)) h := Eq.trans rfl rfl

def B2sN (h : Heap) (K : A → Heap → Prop) : Option (List Int) → Prop
  | some ns => ns.length ≤ maxLen ∧ K (.str (strOfNums ns)) h
  | none => False
def B2sR (h : Heap) (K : A → Heap → Prop) : Option (List (List A)) → Prop
  | some rows => B2sN h K (rows.mapM byteOf)
  | none => False
theorem x_b2s {x : XO} : exec F pl (.b2s x) ev h K = B2sR h K (sliceRows ⟨1, 1⟩ h (ev x)) := by
  simp only [exec]
  generalize sliceRows ⟨1, 1⟩ h (ev x) = o
  cases o with
  | none => rfl
  | some rows =>
    dsimp only [B2sR]
    generalize rows.mapM byteOf = q
    cases q <;> rfl
theorem bs_r {rows : List (List A)} : B2sR h K (some rows) = B2sN h K (rows.mapM byteOf) := Eq.trans rfl rfl
theorem bs_n {ns : List Int} : B2sN h K (some ns) = (ns.length ≤ maxLen ∧ K (.str (strOfNums ns)) h) := Eq.trans rfl rfl

/-! numbers and strings -/
variable {k k' : IntKind} {a b : Int}
/-- Go's '|'. -/
def orI (k : IntKind) (a b : Int) : Int := k.wrap (BitVec.ofInt k.bits a ||| BitVec.ofInt k.bits b).toNat
theorem b_or : Bin .or h K (.d (.sc (.int k a))) (.d (.sc (.int k b))) = K (.sc (.int k (orI k a b))) h := by simp [Bin, binRes, intRes, BinK, orI]
def shlI (k : IntKind) (a b : Int) : Int := k.wrap (a * 2 ^ (min b.toNat k.bits))
theorem b_shl (hb : 0 ≤ b) : Bin .shl h K (.d (.sc (.int k a))) (.d (.sc (.int k' b))) = K (.sc (.int k (shlI k a b))) h := by
  have : ¬ b < 0 := by omega
  simp [Bin, binRes, BinK, shlI, this]
def shrI (k : IntKind) (a b : Int) : Int := a.fdiv (2 ^ (min b.toNat k.bits))
theorem b_shr (hb : 0 ≤ b) : Bin .shr h K (.d (.sc (.int k a))) (.d (.sc (.int k' b))) = K (.sc (.int k (shrI k a b))) h := by
  have : ¬ b < 0 := by omega
  simp [Bin, binRes, BinK, shrI, this]
theorem b_quo (hb : b ≠ 0) : Bin .quo h K (.d (.sc (.int k a))) (.d (.sc (.int k b))) = K (.sc (.int k (k.wrap (a.tdiv b)))) h := by simp [Bin, binRes, intRes, BinK, hb]
theorem b_sadd {s t : ByteArray} (hl : s.size + t.size ≤ maxLen) : Bin .add h K (.d (.sc (.string s))) (.d (.sc (.string t))) = K (.str (s ++ t)) h := by simp [Bin, binRes, strRes, BinK, hl]
theorem b_slss {s t : ByteArray} : Bin .lss h K (.d (.sc (.string s))) (.d (.sc (.string t))) = K (.bool (Op.bytesLess s.toList t.toList)) h := by simp [Bin, binRes, strRes, BinK]

/-! ### Regions in order, with a change of view between two parts -/
theorem run_any {F : Fns} {b b' : Nat} : ∀ {l : List XOper} {s : St} {K : St → Prop}, (l.all fun o => o.pl.isNone) = true → runX F b l s K → runX F b' l s K
  | [], s, K, _, h => h
  | o :: os, s, K, hp, h => by
    simp only [List.all_cons, Bool.and_eq_true] at hp
    obtain ⟨d, op, g, pl⟩ := o
    obtain ⟨hp1, hp2⟩ := hp
    cases pl with
    | some _ => cases hp1
    | none =>
      have h1 : stepX F b ⟨d, op, g, none⟩ s (fun s' => runX F b os s' K) := h
      have h2 : stepX F b' ⟨d, op, g, none⟩ s (fun s' => runX F b os s' K) := h1
      exact stepX_mono (fun s' hs => run_any hp2 hs) h2
theorem runC_x {F : Fns} {n0 b : Nat} : ∀ {l : List XOper} {s : St} {K : St → Prop}, (l.all fun o => o.pl.isNone) = true → runX F b l s K → runC F n0 l s K
  | [], s, K, _, h => h
  | o :: os, s, K, hp, h => by
    simp only [List.all_cons, Bool.and_eq_true] at hp
    obtain ⟨d, op, g, pl⟩ := o
    obtain ⟨hp1, hp2⟩ := hp
    cases pl with
    | some _ => cases hp1
    | none =>
      have h1 : stepX F b ⟨d, op, g, none⟩ s (fun s' => runX F b os s' K) := h
      refine ⟨s, .refl _, ?_⟩
      have h2 : stepX F s.heap.length ⟨d, op, g, none⟩ s (fun s' => runX F b os s' K) := h1
      exact stepX_mono (fun s' hs => runC_x hp2 hs) h2
theorem runC_app {F : Fns} {n0 : Nat} {l2 : List XOper} {K : St → Prop} : ∀ {l1 : List XOper} {s : St}, runC F n0 l1 s (fun s' => runC F n0 l2 s' K) → runC F n0 (l1 ++ l2) s K
  | [], s, h => h
  | o :: os, s, ⟨s1, hco, h⟩ => ⟨s1, hco, stepX_mono (fun s' hs => runC_app hs) h⟩
theorem runC_co {F : Fns} {n0 : Nat} {l : List XOper} {s s1 : St} {K : St → Prop} (hco : Co n0 s s1) (hl : l ≠ []) (h : runC F n0 l s1 K) : runC F n0 l s K := by
  cases l with
  | nil => exact absurd rfl hl
  | cons o os =>
    obtain ⟨s2, h2, h⟩ := h
    exact ⟨s2, hco.trans h2, h⟩
/-- The first n operations in one go; behind them the view may change ('runC_co'). -/
theorem runC_take {F : Fns} {n0 : Nat} {K : St → Prop} (n : Nat) {l : List XOper} {s : St} (hp : ((l.take n).all fun o => o.pl.isNone) = true)
    (h : ∀ K' : St → Prop, (∀ s', runC F n0 (l.drop n) s' K → K' s') → runX F s.heap.length (l.take n) s K') : runC F n0 l s K := by
  have := runC_app (l1 := l.take n) (l2 := l.drop n) (runC_x (n0 := n0) hp (h _ fun _ h => h))
  rwa [List.take_append_drop] at this
/-- The rest of a region, as 'x_nil, x_cons, x_cont, x_step, x_stepP, x_stepG, x_grd, x_grd0, x_lay, x_lay0, x_put, x_put0, x_upd, x_evt, x_evk, x_evf, x_then, x_thenR, x_thenE, x_block, x_blockR, x_blockE, x_mov, x_bin, b_add, b_sub, b_mul, b_and, b_eql, b_neq, b_lss, b_leq, b_gtr, b_geq, b_seql, b_sneq, x_pick, x_pick_t, x_load, l_ptr, l_iptr, l_b, l_r, l_t, l_f, x_alloc, x_box, x_place, x_placeP, x_store, s_ptr, s_b, s_r, x_faddr, f_ptr, f_iptr, f_b, x_field, fd_agg, x_iaddr, i_sl, i_nn, i_ref, i_b, x_len, n_nil, n_sl, n_nn, n_str, n_ref, n_b, x_un, u_not, u_neg, x_call, x_build, fl_nil, fl_cons, x_bslice, rw_nil, rw_cons, x_append, sr_nil, sr_sl, sr_nn, sr_ref, sr_str, sr_b, ap_nil, ap_ref, ap_b, x_copy, cp_ref, cp_b, x_slice, o_none, o_some, o_v, sc_nil, sc_sl, sc_nn, sc_ref, sc_b, sc_s, sc_r, x_sslice, sl_str, sl_s, x_eqs, eq_agg, eq_f, eq_t, ea_nil, ea_cons, ea_c, se_i, se_s, se_b, x_eqb, eb_f, eb_t, x_conv, cv_i, x_extract, ex_tup, ex_i, x_mkfn, x_calle, x_sidx, si_s, x_minmax2, mm_2, x_make, mk_i, x_aaddr, aa_ptr, aa_iptr, aa_b, x_aidx, ai_agg, x_nilck, nk_ptr, nk_iptr, nk_fn, nk_b, x_i2s, i2_i, argS, x_look, x_look0, reduceIte, Nat.reduceEqDiff, Nat.reduceAdd, Nat.reduceLT, Nat.reduceLeDiff, Nat.le_refl, true_and, and_true, List.nil_append, List.cons_append, List.append_nil, List.length_nil, List.length_cons, List.length_append, List.length_replicate, List.length_set, List.length_map, List.getElem?_cons_zero, List.getElem?_cons_succ, List.getD_cons_zero, List.getD_cons_succ, List.set_cons_zero, List.set_cons_succ, List.map_cons, List.map_nil, List.replicate_succ, List.replicate_zero, List.take_succ_cons, List.take_zero, List.take_nil, List.drop_succ_cons, List.drop_zero, List.drop_nil, A.okCells, A.cells, A.one, splice, Int.toNat_natCast, Int.toNat_zero, Nat.zero_add, Nat.add_zero, Option.map_some, Option.map_none, Option.isNone_none, Option.isNone_some, Bool.and_true, Bool.true_and, Bool.not_true, Bool.not_false, Bool.false_eq_true' walks it. -/
theorem runC_end {F : Fns} {n0 : Nat} {K : St → Prop} {l : List XOper} {s : St} (hp : (l.all fun o => o.pl.isNone) = true) (h : runX F s.heap.length l s K) : runC F n0 l s K := runC_x hp h
theorem W_regCK {N : Nat} {rl : Option Nat} {n0 : Nat} {xs : List XOper} {Q : Exit → St → Prop} {s : St} (h : ∀ K : St → Prop, (∀ s', Q .normal s' → K s') → runC (.all Γ P) n0 xs s K) : W Γ P N rl n0 (.reg xs) Q s :=
  W_regC (h _ fun _ h => h)
theorem W_sregC {N : Nat} {rl : Option Nat} {n0 : Nat} {xs : List XOper} {y : XC} {Q : Exit → St → Prop} {s : St} (h : ∀ K : St → Prop, (∀ s', W Γ P N rl n0 y Q s' → K s') → runC (.all Γ P) n0 xs s K) : W Γ P N rl n0 (.seq (.reg xs) y) Q s :=
  W_seq (W_regC (h _ fun _ h => h))

/-! ### Ways that meet -/
theorem runC_cut {F : Fns} {n0 : Nat} {K : St → Prop} (n : Nat) (R : St → Prop) {l : List XOper} {s : St} (hp : ((l.take n).all fun o => o.pl.isNone) = true) (hl : l.drop n ≠ [])
    (h1 : ∀ K' : St → Prop, (∀ s' s1, Co n0 s' s1 → R s1 → K' s') → runX F s.heap.length (l.take n) s K') (h2 : ∀ s1, R s1 → runC F n0 (l.drop n) s1 K) : runC F n0 l s K :=
  runC_take n hp fun K' hK' => h1 K' fun s' s1 hc hr => hK' s' (runC_co hc hl (h2 s1 hr))
theorem W_cut {N : Nat} {rl : Option Nat} {n0 : Nat} {x y : XC} {Q : Exit → St → Prop} {s : St} (R : St → Prop) (h1 : W Γ P N rl n0 x (fun e s' => e = .normal ∧ ∃ s1, Co n0 s' s1 ∧ R s1) s) (h2 : ∀ s1, R s1 → W Γ P N rl n0 y Q s1) : W Γ P N rl n0 (.seq x y) Q s :=
  W_seq (W_mono (fun e s' ⟨he, s1, hc, hr⟩ => by subst he; exact W_co hc (h2 s1 hr)) h1)
theorem W_cutC {N : Nat} {rl : Option Nat} {n0 : Nat} {xs : List XOper} {y : XC} {Q : Exit → St → Prop} {s : St} (R : St → Prop) (h1 : ∀ K : St → Prop, (∀ s' s1, Co n0 s' s1 → R s1 → K s') → runC (.all Γ P) n0 xs s K)
    (h2 : ∀ s1, R s1 → W Γ P N rl n0 y Q s1) : W Γ P N rl n0 (.seq (.reg xs) y) Q s :=
  W_cut R (W_regC (h1 _ fun s' s1 hc hr => ⟨rfl, s1, hc, hr⟩)) h2
/-- A region and a condition behind it, in one. -/
theorem W_cutX {N : Nat} {rl : Option Nat} {n0 : Nat} {xs : List XOper} {y : XC} {Q : Exit → St → Prop} {s : St} (R : St → Prop) (hp : (xs.all fun o => o.pl.isNone) = true) (h1 : ∀ K : St → Prop, (∀ s' s1, Co n0 s' s1 → R s1 → K s') → runX (.all Γ P) s.heap.length xs s K)
    (h2 : ∀ s1, R s1 → W Γ P N rl n0 y Q s1) : W Γ P N rl n0 (.seq (.reg xs) y) Q s :=
  W_cutC R (fun K hK => runC_x hp (h1 K hK)) h2

end Go.Proofs.YtmagahmklndcgaaDoor.Nx
