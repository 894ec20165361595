/- One step at a time, the rest of the operations. -/
import Derived.Test.YtmagahmklndcgaaDoorNxWalk2
namespace Go.Proofs.YtmagahmklndcgaaDoor.Nx
set_option linter.unusedSimpArgs false
set_option linter.unusedVariables false
set_option linter.unnecessarySimpa false
open Go

variable {Γ : Ctx} {P : Program} {F : Fns} {pl : Option Nat} {ev : XO → A} {h : Heap} {K : A → Heap → Prop}

/-! build, slices of parts -/
def FillB (h : Heap) (K : A → Heap → Prop) (cs : List A) (l : List (Nat × Nat × A)) : Prop := fillTo cs l fun c => K (.agg c) h
theorem x_build {z : List A} {ps : List (Nat × Nat × XO)} : exec F pl (.build z ps) ev h K = FillB h K z (ps.map fun p => (p.1, p.2.1, ev p.2.2)) := Eq.trans rfl rfl
theorem fl_nil {cs : List A} : FillB h K cs [] = K (.agg cs) h := Eq.trans rfl rfl
theorem fl_cons {cs : List A} {off n : Nat} {x : A} {r : List (Nat × Nat × A)} : FillB h K cs ((off, n, x) :: r) = (x.okCells = true ∧ x.cells.length = n ∧ off + n ≤ cs.length ∧ FillB h K (splice cs off x.cells) r) := Eq.trans rfl rfl

def RowsB (e : Elt) (n : Nat) (pl : Option Nat) (h : Heap) (K : A → Heap → Prop) (rows : List (List A)) (l : List (Nat × A)) : Prop := rowsTo e.sz rows l fun rows => Place pl h (.cells e rows) (fun id => .ref id n 0 n true) K
theorem x_bslice {e : Elt} {z : List A} {n : Nat} {ps : List (Nat × XO)} : exec F pl (.bslice e z n ps) ev h K = RowsB e n pl h K (List.replicate n z) (ps.map fun p => (p.1, ev p.2)) := by
  simp only [exec, RowsB, place_eq (mk := fun id => .ref id n 0 n true)]
theorem rw_nil {e : Elt} {n : Nat} {rows : List (List A)} : RowsB e n pl h K rows [] = Place pl h (.cells e rows) (fun id => .ref id n 0 n true) K := Eq.trans rfl rfl
theorem rw_cons {e : Elt} {n i : Nat} {x : A} {rows : List (List A)} {r : List (Nat × A)} : RowsB e n pl h K rows ((i, x) :: r) = (x.okCells = true ∧ x.cells.length = e.sz ∧ i < rows.length ∧ RowsB e n pl h K (rows.set i x.cells) r) := Eq.trans rfl rfl

/-! append, copy -/
def SrcB (e : Elt) (N off len : Nat) : Option HB → Option (List (List A))
  | some (.cells e' rows) => if e'.sz = e.sz ∧ N = rows.length then some ((rows.drop off).take len) else none
  | _ => none
theorem sr_nil {e : Elt} : srcRows e h .nil = some [] := Eq.trans rfl rfl
theorem sr_sl {e e' : Elt} {rows : List (List D)} : srcRows e h (.d (.sl e' rows)) = if e'.sz = e.sz then some (rows.map fun r => r.map .d) else none := Eq.trans rfl rfl
theorem sr_nn {e e' : Elt} {rows : List (List D)} : srcRows e h (.nn e' rows) = if e'.sz = e.sz then some (rows.map fun r => r.map .d) else none := Eq.trans rfl rfl
theorem sr_ref {e : Elt} {id N off len : Nat} {full : Bool} : srcRows e h (.ref id N off len full) = SrcB e N off len h[id]? := by
  simp only [srcRows, SrcB]
  generalize h[id]? = o
  rcases o with _ | (⟨e, rows⟩ | _ | _) <;> rfl
theorem sr_str {e : Elt} {s : ByteArray} : srcRows e h (.d (.sc (.string s))) = if e.sz = 1 then some (s.data.toList.map fun b => [.sc (.int .u8 b.toNat)]) else none := Eq.trans rfl rfl
theorem sr_b {e e' : Elt} {N off len : Nat} {rows : List (List A)} : SrcB e N off len (some (.cells e' rows)) = if e'.sz = e.sz ∧ N = rows.length then some ((rows.drop off).take len) else none := Eq.trans rfl rfl

def AppB (e : Elt) (h : Heap) (K : A → Heap → Prop) (new : List (List A)) (id N off len : Nat) (full : Bool) : Option HB → Prop
  | some (.cells e' rows) => e' = e ∧ N = rows.length ∧ off = 0 ∧ (len + new.length) * e.bytes ≤ room ∧ len + new.length ≤ maxLen ∧
      if len = N then K (.ref id (N + new.length) 0 (N + new.length) true) (h.set id (.cells e (rows ++ new)))
      else full = true ∧ len + new.length ≤ N ∧ K (.ref id N 0 (len + new.length) true) (h.set id (.cells e (rows.take len ++ new ++ rows.drop (len + new.length))))
  | _ => False
def App (e : Elt) (pl : Option Nat) (h : Heap) (K : A → Heap → Prop) : Option (List (List A)) → A → Prop
  | some new, .nil => if new = [] then K .nil h else new.length * e.bytes ≤ room ∧ new.length ≤ maxLen ∧ Place pl h (.cells e new) (fun id => .ref id new.length 0 new.length true) K
  | some new, .ref id N off len full => AppB e h K new id N off len full h[id]?
  | _, _ => False
theorem x_append {e : Elt} {x y : XO} : exec F pl (.append e x y) ev h K = App e pl h K (srcRows e h (ev y)) (ev x) := by
  simp only [exec]
  generalize srcRows e h (ev y) = o
  generalize ev x = a
  cases o with
  | none => cases a <;> rfl
  | some new =>
    cases a with
    | nil => simp only [App, place_eq (mk := fun id => .ref id new.length 0 new.length true)]
    | ref id N off len full =>
      dsimp only [App]
      generalize h[id]? = o
      rcases o with _ | (⟨e, rows⟩ | _ | _) <;> rfl
    | _ => rfl
theorem ap_nil {e : Elt} {new : List (List A)} : App e pl h K (some new) .nil = if new = [] then K .nil h else new.length * e.bytes ≤ room ∧ new.length ≤ maxLen ∧ Place pl h (.cells e new) (fun id => .ref id new.length 0 new.length true) K := Eq.trans rfl rfl
theorem ap_ref {e : Elt} {new : List (List A)} {id N off len : Nat} {full : Bool} : App e pl h K (some new) (.ref id N off len full) = AppB e h K new id N off len full h[id]? := Eq.trans rfl rfl
theorem ap_b {e e' : Elt} {new rows : List (List A)} {id N off len : Nat} {full : Bool} : AppB e h K new id N off len full (some (.cells e' rows)) = (e' = e ∧ N = rows.length ∧ off = 0 ∧ (len + new.length) * e.bytes ≤ room ∧ len + new.length ≤ maxLen ∧
      if len = N then K (.ref id (N + new.length) 0 (N + new.length) true) (h.set id (.cells e (rows ++ new)))
      else full = true ∧ len + new.length ≤ N ∧ K (.ref id N 0 (len + new.length) true) (h.set id (.cells e (rows.take len ++ new ++ rows.drop (len + new.length))))) := Eq.trans rfl rfl

def CopyB (e : Elt) (h : Heap) (K : A → Heap → Prop) (new : List (List A)) (id N off len : Nat) : Option HB → Prop
  | some (.cells e' rows) => e' = e ∧ N = rows.length ∧ K (.int (min new.length len : Nat)) (h.set id (.cells e (rows.take off ++ new.take (min new.length len) ++ rows.drop (off + min new.length len))))
  | _ => False
def Copy (e : Elt) (h : Heap) (K : A → Heap → Prop) : Option (List (List A)) → A → Prop
  | some new, .ref id N off len _ => CopyB e h K new id N off len h[id]?
  | _, _ => False
theorem x_copy {e : Elt} {x y : XO} : exec F pl (.copy e x y) ev h K = Copy e h K (srcRows e h (ev y)) (ev x) := by
  simp only [exec]
  generalize srcRows e h (ev y) = o
  generalize ev x = a
  cases o with
  | none => cases a <;> rfl
  | some new =>
    cases a with
    | ref id N off len full =>
      dsimp only [Copy]
      generalize h[id]? = o
      rcases o with _ | (⟨e, rows⟩ | _ | _) <;> rfl
    | _ => rfl
theorem cp_ref {e : Elt} {new : List (List A)} {id N off len : Nat} {full : Bool} : Copy e h K (some new) (.ref id N off len full) = CopyB e h K new id N off len h[id]? := Eq.trans rfl rfl
theorem cp_b {e e' : Elt} {new rows : List (List A)} {id N off len : Nat} : CopyB e h K new id N off len (some (.cells e' rows)) = (e' = e ∧ N = rows.length ∧ K (.int (min new.length len : Nat)) (h.set id (.cells e (rows.take off ++ new.take (min new.length len) ++ rows.drop (off + min new.length len))))) := Eq.trans rfl rfl

/-! slices of slices and strings -/
def OptV : A → Option Int
  | .d (.sc (.int _ n)) => some n
  | _ => none
theorem o_none {d : Nat} : optInt ev none d = some (d : Int) := Eq.trans rfl rfl
theorem o_some {y : XO} {d : Nat} : optInt ev (some y) d = OptV (ev y) := by
  simp only [optInt]
  generalize ev y = a
  rcases a with _ | _ | (v | _) | _ | _ | _ | _ | _ | _ | _ | _ <;> try rfl
theorem o_v {k : IntKind} {n : Int} : OptV (.d (.sc (.int k n))) = some n := Eq.trans rfl rfl

def SliceS (e e' : Elt) (rows : List (List D)) (h : Heap) (K : A → Heap → Prop) : Option Int → Option Int → Option Int → Prop
  | some l, some u, some m => e'.sz = e.sz ∧ 0 ≤ l ∧ l ≤ u ∧ u ≤ m ∧ m ≤ rows.length ∧ K (.d (.sl e' ((rows.drop l.toNat).take (u - l).toNat))) h
  | _, _, _ => False
def SliceR (e e' : Elt) (rows : List (List A)) (id N off len : Nat) (full : Bool) (h : Heap) (K : A → Heap → Prop) : Option Int → Option Int → Option Int → Prop
  | some l, some u, some m => e'.sz = e.sz ∧ N = rows.length ∧ 0 ≤ l ∧ l ≤ u ∧ u ≤ m ∧ m ≤ len ∧ K (.ref id N (off + l.toNat) (u - l).toNat full) h
  | _, _, _ => False
def SliceB (e : Elt) (h : Heap) (K : A → Heap → Prop) (ev : XO → A) (lo hi mx : Option XO) (id N off len : Nat) (full : Bool) : Option HB → Prop
  | some (.cells e' rows) => SliceR e e' rows id N off len (full && mx.isNone) h K (optInt ev lo 0) (optInt ev hi len) (optInt ev mx len)
  | _ => False
def SliceA (e : Elt) (h : Heap) (K : A → Heap → Prop) (ev : XO → A) (lo hi mx : Option XO) : A → Prop
  | .nil => optInt ev lo 0 = some 0 ∧ optInt ev hi 0 = some 0 ∧ optInt ev mx 0 = some 0 ∧ K .nil h
  | .d (.sl e' rows) => SliceS e e' rows h K (optInt ev lo 0) (optInt ev hi rows.length) (optInt ev mx rows.length)
  | .nn e' rows => SliceS e e' rows h K (optInt ev lo 0) (optInt ev hi rows.length) (optInt ev mx rows.length)
  | .ref id N off len full => SliceB e h K ev lo hi mx id N off len full h[id]?
  | _ => False
theorem x_slice {e : Elt} {x : XO} {lo hi mx : Option XO} : exec F pl (.slice e x lo hi mx) ev h K = SliceA e h K ev lo hi mx (ev x) := by
  simp only [exec]
  generalize ev x = a
  cases a with
  | d y => cases y with
    | sl e' rows =>
      dsimp only [SliceA]
      generalize optInt ev lo 0 = l
      generalize optInt ev hi rows.length = u
      generalize optInt ev mx rows.length = m
      cases l <;> cases u <;> cases m <;> rfl
    | sc _ => rfl
  | nn e' rows =>
    dsimp only [SliceA]
    generalize optInt ev lo 0 = l
    generalize optInt ev hi rows.length = u
    generalize optInt ev mx rows.length = m
    cases l <;> cases u <;> cases m <;> rfl
  | ref id N off len full =>
    dsimp only [SliceA]
    generalize h[id]? = o
    rcases o with _ | (⟨e', rows⟩ | _ | _) <;> try rfl
  | _ => rfl
theorem sc_nil {e : Elt} {lo hi mx : Option XO} : SliceA e h K ev lo hi mx .nil = (optInt ev lo 0 = some 0 ∧ optInt ev hi 0 = some 0 ∧ optInt ev mx 0 = some 0 ∧ K .nil h) := Eq.trans rfl rfl
theorem sc_sl {e e' : Elt} {rows : List (List D)} {lo hi mx : Option XO} : SliceA e h K ev lo hi mx (.d (.sl e' rows)) = SliceS e e' rows h K (optInt ev lo 0) (optInt ev hi rows.length) (optInt ev mx rows.length) := Eq.trans rfl rfl
theorem sc_nn {e e' : Elt} {rows : List (List D)} {lo hi mx : Option XO} : SliceA e h K ev lo hi mx (.nn e' rows) = SliceS e e' rows h K (optInt ev lo 0) (optInt ev hi rows.length) (optInt ev mx rows.length) := Eq.trans rfl rfl
theorem sc_ref {e : Elt} {id N off len : Nat} {full : Bool} {lo hi mx : Option XO} : SliceA e h K ev lo hi mx (.ref id N off len full) = SliceB e h K ev lo hi mx id N off len full h[id]? := Eq.trans rfl rfl
theorem sc_b {e e' : Elt} {rows : List (List A)} {id N off len : Nat} {full : Bool} {lo hi mx : Option XO} : SliceB e h K ev lo hi mx id N off len full (some (.cells e' rows)) = SliceR e e' rows id N off len (full && mx.isNone) h K (optInt ev lo 0) (optInt ev hi len) (optInt ev mx len) := Eq.trans rfl rfl
theorem sc_s {e e' : Elt} {rows : List (List D)} {l u m : Int} : SliceS e e' rows h K (some l) (some u) (some m) = (e'.sz = e.sz ∧ 0 ≤ l ∧ l ≤ u ∧ u ≤ m ∧ m ≤ rows.length ∧ K (.d (.sl e' ((rows.drop l.toNat).take (u - l).toNat))) h) := Eq.trans rfl rfl
theorem sc_r {e e' : Elt} {rows : List (List A)} {id N off len : Nat} {full : Bool} {l u m : Int} : SliceR e e' rows id N off len full h K (some l) (some u) (some m) = (e'.sz = e.sz ∧ N = rows.length ∧ 0 ≤ l ∧ l ≤ u ∧ u ≤ m ∧ m ≤ len ∧ K (.ref id N (off + l.toNat) (u - l).toNat full) h) := Eq.trans rfl rfl

def SslcS (s : ByteArray) (h : Heap) (K : A → Heap → Prop) : Option Int → Option Int → Prop
  | some l, some u => 0 ≤ l ∧ l ≤ u ∧ u ≤ s.size ∧ K (.str (s.extract l.toNat u.toNat)) h
  | _, _ => False
def Sslc (h : Heap) (K : A → Heap → Prop) (ev : XO → A) (lo hi : Option XO) : A → Prop
  | .d (.sc (.string s)) => SslcS s h K (optInt ev lo 0) (optInt ev hi s.size)
  | _ => False
theorem x_sslice {x : XO} {lo hi : Option XO} : exec F pl (.sslice x lo hi) ev h K = Sslc h K ev lo hi (ev x) := by
  simp only [exec]
  generalize ev x = a
  rcases a with _ | _ | (v | _) | _ | _ | _ | _ | _ | _ | _ | _ <;> try rfl
theorem sl_str {s : ByteArray} {lo hi : Option XO} : Sslc h K ev lo hi (.d (.sc (.string s))) = SslcS s h K (optInt ev lo 0) (optInt ev hi s.size) := Eq.trans rfl rfl
theorem sl_s {s : ByteArray} {l u : Int} : SslcS s h K (some l) (some u) = (0 ≤ l ∧ l ≤ u ∧ u ≤ s.size ∧ K (.str (s.extract l.toNat u.toNat)) h) := Eq.trans rfl rfl

/-! equality of structures -/
def EqC : Option Bool → Option Bool → Option Bool
  | some b, some c => some (b && c)
  | _, _ => none
theorem ea_nil {xs ys : List A} : eqAll [] xs ys = some true := Eq.trans rfl rfl
theorem ea_cons {j : Nat} {k : EqK} {ks : List (Nat × EqK)} {xs ys : List A} : eqAll ((j, k) :: ks) xs ys = EqC (scEq k (xs.getD j .any) (ys.getD j .any)) (eqAll ks xs ys) := by
  simp only [eqAll]
  generalize scEq k (xs.getD j .any) (ys.getD j .any) = a
  generalize eqAll ks xs ys = b
  cases a <;> cases b <;> rfl
theorem ea_c {b c : Bool} : EqC (some b) (some c) = some (b && c) := Eq.trans rfl rfl
theorem se_i {k : IntKind} {a b : Int} : scEq .i (.d (.sc (.int k a))) (.d (.sc (.int k b))) = some (a == b) := by simp [scEq]
theorem se_s {a b : ByteArray} : scEq .s (.d (.sc (.string a))) (.d (.sc (.string b))) = some (decide (a = b)) := Eq.trans rfl rfl
theorem se_b {a b : Bool} : scEq .b (.d (.sc (.bool a))) (.d (.sc (.bool b))) = some (a == b) := Eq.trans rfl rfl
def EqR (neg : Bool) (h : Heap) (K : A → Heap → Prop) : Option Bool → Prop
  | some b => K (.bool (if neg then !b else b)) h
  | none => False
def EqS (neg : Bool) (n : Nat) (ks : List (Nat × EqK)) (h : Heap) (K : A → Heap → Prop) : A → A → Prop
  | .agg xs, .agg ys => xs.length = n ∧ ys.length = n ∧ EqR neg h K (eqAll ks xs ys)
  | _, _ => False
theorem x_eqs {neg : Bool} {n : Nat} {ks : List (Nat × EqK)} {x y : XO} : exec F pl (.eqs neg n ks x y) ev h K = EqS neg n ks h K (ev x) (ev y) := by
  simp only [exec]
  generalize ev x = a
  generalize ev y = b
  cases a with
  | agg xs => cases b with
    | agg ys =>
      dsimp only [EqS]
      generalize eqAll ks xs ys = o
      cases o <;> rfl
    | _ => rfl
  | _ => cases b <;> rfl
theorem eq_agg {neg : Bool} {n : Nat} {ks : List (Nat × EqK)} {xs ys : List A} : EqS neg n ks h K (.agg xs) (.agg ys) = (xs.length = n ∧ ys.length = n ∧ EqR neg h K (eqAll ks xs ys)) := Eq.trans rfl rfl
theorem eq_f {b : Bool} : EqR false h K (some b) = K (.bool b) h := Eq.trans rfl rfl
theorem eq_t {b : Bool} : EqR true h K (some b) = K (.bool (!b)) h := Eq.trans rfl rfl

def EqB (neg : Bool) (h : Heap) (K : A → Heap → Prop) : A → A → Prop
  | .d (.sc (.bool a)), .d (.sc (.bool b)) => K (.bool (if neg then a != b else a == b)) h
  | _, _ => False
theorem x_eqb {neg : Bool} {x y : XO} : exec F pl (.eqb neg x y) ev h K = EqB neg h K (ev x) (ev y) := by
  simp only [exec]
  generalize ev x = a
  generalize ev y = b
  rcases a with _ | _ | (v | _) | _ | _ | _ | _ | _ | _ | _ | _ <;> try rfl
theorem eb_f {a b : Bool} : EqB false h K (.d (.sc (.bool a))) (.d (.sc (.bool b))) = K (.bool (a == b)) h := Eq.trans rfl rfl
theorem eb_t {a b : Bool} : EqB true h K (.d (.sc (.bool a))) (.d (.sc (.bool b))) = K (.bool (a != b)) h := Eq.trans rfl rfl

/-! conversions, tuples, functions -/
def Conv (k : IntKind) (h : Heap) (K : A → Heap → Prop) : A → Prop
  | .d (.sc (.int _ n)) => K (.sc (.int k (k.wrap n))) h
  | _ => False
theorem x_conv {k : IntKind} {x : XO} : exec F pl (.conv k x) ev h K = Conv k h K (ev x) := by
  simp only [exec]
  generalize ev x = a
  rcases a with _ | _ | (v | _) | _ | _ | _ | _ | _ | _ | _ | _ <;> try rfl
theorem cv_i {k k' : IntKind} {n : Int} : Conv k h K (.d (.sc (.int k' n))) = K (.sc (.int k (k.wrap n))) h := Eq.trans rfl rfl

def ExtI (h : Heap) (K : A → Heap → Prop) : Option A → Prop
  | some a => K a h
  | none => False
def Ext (i : Nat) (h : Heap) (K : A → Heap → Prop) : A → Prop
  | .tup l => ExtI h K l[i]?
  | _ => False
theorem x_extract {i : Nat} {x : XO} : exec F pl (.extract i x) ev h K = Ext i h K (ev x) := by
  simp only [exec]
  generalize ev x = a
  cases a with
  | tup l =>
    dsimp only [Ext]
    generalize l[i]? = o
    cases o <;> rfl
  | _ => rfl
theorem ex_tup {i : Nat} {l : List A} : Ext i h K (.tup l) = ExtI h K l[i]? := Eq.trans rfl rfl
theorem ex_i {a : A} : ExtI h K (some a) = K a h := Eq.trans rfl rfl

theorem x_mkfn {f : FuncId} {caps : List XO} : exec F pl (.mkfn f caps) ev h K = K (.fn f (caps.map ev)) h := Eq.trans rfl rfl

def Calle (F : Fns) (h : Heap) (K : A → Heap → Prop) (args : List A) : A → Prop
  | .fn g caps => ∃ r h', F.call g (args ++ caps) h r h' ∧ K r h'
  | .yld id => ∃ r h', F.round id args h r h' ∧ K r h'
  | _ => False
theorem x_calle {f : XO} {args : List XO} : exec F pl (.calle f args) ev h K = Calle F h K (args.map ev) (ev f) := by
  simp only [exec]
  generalize ev f = a
  cases a <;> rfl
theorem ce_fn {g : FuncId} {args : List A} {r : A} {h' : Heap} (hf : FnD Γ P g args h r h') (hK : K r h') : Calle (.all Γ P) h K args (.fn g []) := by
  simp only [Calle, List.append_nil]
  exact ⟨r, h', hf, hK⟩
theorem ce_yld {id : Nat} {args : List A} {r : A} {h' : Heap} (hf : RoundD Γ P id args h r h') (hK : K r h') : Calle (.all Γ P) h K args (.yld id) := ⟨r, h', hf, hK⟩
/-- A call of a closure. -/
theorem c_clo {g : FuncId} {args caps : List A} {r : A} (hf : FnP Γ.t P g (args ++ caps) r) (h0 : A.underL 0 (args ++ caps) = true) (hK : K r h) : Call (.all Γ P) h K args (.fn g caps) := ⟨h0, r, hf, hK⟩

def Sidx (h : Heap) (K : A → Heap → Prop) : A → A → Prop
  | .d (.sc (.string s)), .d (.sc (.int _ n)) => 0 ≤ n ∧ n < s.size ∧ K (.sc (.int .u8 (s.data.toList.getD n.toNat 0).toNat)) h
  | _, _ => False
theorem x_sidx {x i : XO} : exec F pl (.sidx x i) ev h K = Sidx h K (ev x) (ev i) := by
  simp only [exec]
  generalize ev x = a
  generalize ev i = b
  rcases a with _ | _ | (v | _) | _ | _ | _ | _ | _ | _ | _ | _ <;> try rfl
theorem si_s {s : ByteArray} {k : IntKind} {n : Int} : Sidx h K (.d (.sc (.string s))) (.d (.sc (.int k n))) = (0 ≤ n ∧ n < s.size ∧ K (.sc (.int .u8 (s.data.toList.getD n.toNat 0).toNat)) h) := Eq.trans rfl rfl

def MinMax (isMax : Bool) (h : Heap) (K : A → Heap → Prop) : List A → Prop
  | [.d (.sc (.int k a)), .d (.sc (.int k' b))] => k = k' ∧ K (.sc (.int k (minmaxInt isMax a b))) h
  | [.d (.sc (.int k a)), .d (.sc (.int k' b)), .d (.sc (.int k'' c))] => k = k' ∧ k = k'' ∧ K (.sc (.int k (minmaxInt isMax (minmaxInt isMax a b) c))) h
  | _ => False
theorem x_minmax2 {isMax : Bool} {x y : XO} : exec F pl (.minmax isMax [x, y]) ev h K = MinMax isMax h K [ev x, ev y] := by
  simp only [exec]
  generalize ev x = a
  generalize ev y = b
  rcases a with _ | _ | (v | _) | _ | _ | _ | _ | _ | _ | _ | _ <;> try rfl
  cases v <;> try rfl
  rcases b with _ | _ | (v | _) | _ | _ | _ | _ | _ | _ | _ | _ <;> try rfl
  cases v <;> rfl
theorem mm_2 {isMax : Bool} {k : IntKind} {a b : Int} : MinMax isMax h K [.d (.sc (.int k a)), .d (.sc (.int k b))] = K (.sc (.int k (minmaxInt isMax a b))) h := by simp [MinMax]

def Make (e : Elt) (z : List A) (pl : Option Nat) (h : Heap) (K : A → Heap → Prop) : A → A → Prop
  | .d (.sc (.int .i64 n)), .d (.sc (.int .i64 c)) => 0 ≤ n ∧ n ≤ c ∧ c ≤ 9223372036854775807 ∧ c * e.bytes ≤ room ∧ Place pl h (.cells e (List.replicate n.toNat z)) (fun id => .ref id n.toNat 0 n.toNat true) K
  | _, _ => False
theorem x_make {e : Elt} {z : List A} {n c : XO} : exec F pl (.make e z n c) ev h K = Make e z pl h K (ev n) (ev c) := by
  simp only [exec]
  generalize ev n = a
  generalize ev c = b
  rcases a with _ | _ | (v | _) | _ | _ | _ | _ | _ | _ | _ | _ <;> try rfl
theorem mk_i {e : Elt} {z : List A} {n c : Int} : Make e z pl h K (.d (.sc (.int .i64 n))) (.d (.sc (.int .i64 c))) = (0 ≤ n ∧ n ≤ c ∧ c ≤ 9223372036854775807 ∧ c * e.bytes ≤ room ∧ Place pl h (.cells e (List.replicate n.toNat z)) (fun id => .ref id n.toNat 0 n.toNat true) K) := Eq.trans rfl rfl

def EqNil (neg : Bool) (h : Heap) (K : A → Heap → Prop) : A → Prop
  | .nil => K (.bool (!neg)) h
  | .nn _ _ => K (.bool neg) h
  | .d (.sl _ rows) => rows ≠ [] ∧ K (.bool neg) h
  | _ => False
theorem x_eqnil {neg : Bool} {x : XO} : exec F pl (.eqnil neg x) ev h K = EqNil neg h K (ev x) := by
  simp only [exec]
  generalize ev x = a
  rcases a with _ | _ | (v | _) | _ | _ | _ | _ | _ | _ | _ | _ <;> rfl


/-- Go's '&'. -/
def andI (k : IntKind) (a b : Int) : Int := k.wrap (BitVec.ofInt k.bits a &&& BitVec.ofInt k.bits b).toNat
theorem b_and {k : IntKind} {a b : Int} : Bin .and h K (.d (.sc (.int k a))) (.d (.sc (.int k b))) = K (.sc (.int k (andI k a b))) h := by simp [Bin, binRes, intRes, BinK, andI]
theorem b_rem {k : IntKind} {a b : Int} (hb : b ≠ 0) : Bin .rem h K (.d (.sc (.int k a))) (.d (.sc (.int k b))) = K (.sc (.int k (a.tmod b))) h := by simp [Bin, binRes, intRes, BinK, hb]

end Go.Proofs.YtmagahmklndcgaaDoor.Nx
