/- One step at a time, further operations. -/
import Derived.Test.YtmagahmklndcgaaDoorNxWalk
namespace Go.Proofs.YtmagahmklndcgaaDoor.Nx
set_option linter.unusedSimpArgs false
set_option linter.unusedVariables false
set_option linter.unnecessarySimpa false
open Go

variable {Γ : Ctx} {P : Program} {F : Fns} {pl : Option Nat} {ev : XO → A} {h : Heap} {K : A → Heap → Prop}

def Place (pl : Option Nat) (h : Heap) (B : HB) (mk : Nat → A) (K : A → Heap → Prop) : Prop :=
  match pl with
  | none => K (mk h.length) (h ++ [B])
  | some a => h[a]? = some .res ∧ K (mk a) (h.set a B)
theorem place_eq {B : HB} {mk : Nat → A} : place pl h B (fun id h1 => K (mk id) h1) = Place pl h B mk K := by cases pl <;> rfl
theorem x_place {B : HB} {mk : Nat → A} : Place none h B mk K = K (mk h.length) (h ++ [B]) := Eq.trans rfl rfl
theorem x_placeP {a : Nat} {B : HB} {mk : Nat → A} : Place (some a) h B mk K = (h[a]? = some .res ∧ K (mk a) (h.set a B)) := Eq.trans rfl rfl

theorem x_alloc {e : Elt} {z : List A} : exec F pl (.alloc e z) ev h K = Place pl h (.cells e [z]) (fun id => .ptr id 1 0 0) K := by
  simp only [exec]
  exact place_eq (mk := fun id => .ptr id 1 0 0)
theorem x_box {e : Elt} {x : XO} : exec F pl (.box e x) ev h K = ((ev x).okCells = true ∧ (ev x).cells.length = e.sz ∧ Place pl h (.cells e [(ev x).cells]) (fun id => .ptr id 1 0 0) K) := by
  simp only [exec, place_eq (mk := fun id => .ptr id 1 0 0)]

def StoreR (n : Nat) (h : Heap) (K : A → Heap → Prop) (y : A) (e : Elt) (rows : List (List A)) (id i off : Nat) : Option (List A) → Prop
  | some r => off + n ≤ r.length ∧ K .any (h.set id (.cells e (rows.set i (splice r off y.cells))))
  | none => False
def StoreB (n : Nat) (h : Heap) (K : A → Heap → Prop) (y : A) (id N i off : Nat) : Option HB → Prop
  | some (.cells e rows) => N = rows.length ∧ y.okCells = true ∧ y.cells.length = n ∧ StoreR n h K y e rows id i off rows[i]?
  | _ => False
def Store (n : Nat) (h : Heap) (K : A → Heap → Prop) (y : A) : A → Prop
  | .ptr id N i off => StoreB n h K y id N i off h[id]?
  | _ => False
theorem x_store {n : Nat} {x y : XO} : exec F pl (.store n x y) ev h K = Store n h K (ev y) (ev x) := by
  simp only [exec, Store]
  generalize ev x = a
  cases a with
  | ptr id N i off =>
    dsimp only
    generalize h[id]? = o
    rcases o with _ | (⟨e, rows⟩ | _ | _)
    · rfl
    · dsimp only [StoreB]
      generalize rows[i]? = r
      cases r <;> rfl
    · rfl
    · rfl
  | _ => rfl
theorem s_ptr {n id N i off : Nat} {y : A} : Store n h K y (.ptr id N i off) = StoreB n h K y id N i off h[id]? := Eq.trans rfl rfl
theorem s_b {n id N i off : Nat} {y : A} {e : Elt} {rows : List (List A)} : StoreB n h K y id N i off (some (.cells e rows)) = (N = rows.length ∧ y.okCells = true ∧ y.cells.length = n ∧ StoreR n h K y e rows id i off rows[i]?) := Eq.trans rfl rfl
theorem s_r {n id i off : Nat} {y : A} {e : Elt} {rows : List (List A)} {r : List A} : StoreR n h K y e rows id i off (some r) = (off + n ≤ r.length ∧ K .any (h.set id (.cells e (rows.set i (splice r off y.cells))))) := Eq.trans rfl rfl

def FaddrB (off : Nat) (h : Heap) (K : A → Heap → Prop) (id N i o : Nat) : Option HB → Prop
  | some (.cells _ rows) => N = rows.length ∧ K (.ptr id N i (o + off)) h
  | _ => False
def Faddr (off : Nat) (h : Heap) (K : A → Heap → Prop) : A → Prop
  | .ptr id N i o => FaddrB off h K id N i o h[id]?
  | .iptr cs => K (.iptr (cs.drop off)) h
  | _ => False
theorem x_faddr {off : Nat} {x : XO} : exec F pl (.faddr off x) ev h K = Faddr off h K (ev x) := by
  simp only [exec, Faddr]
  generalize ev x = a
  cases a with
  | ptr id N i o =>
    dsimp only
    generalize h[id]? = o
    rcases o with _ | (⟨e, rows⟩ | _ | _) <;> rfl
  | _ => rfl
theorem f_ptr {off id N i o : Nat} : Faddr off h K (.ptr id N i o) = FaddrB off h K id N i o h[id]? := Eq.trans rfl rfl
theorem f_iptr {off : Nat} {cs : List D} : Faddr off h K (.iptr cs) = K (.iptr (cs.drop off)) h := Eq.trans rfl rfl
theorem f_b {off id N i o : Nat} {e : Elt} {rows : List (List A)} : FaddrB off h K id N i o (some (.cells e rows)) = (N = rows.length ∧ K (.ptr id N i (o + off)) h) := Eq.trans rfl rfl

def Field (off n : Nat) (g : Bool) (h : Heap) (K : A → Heap → Prop) : A → Prop
  | .agg cs => LoadC n h K g (cs.drop off)
  | _ => False
theorem x_field {off n : Nat} {g : Bool} {x : XO} : exec F pl (.field off n g x) ev h K = Field off n g h K (ev x) := by
  simp only [exec, Field]
  generalize ev x = a
  cases a <;> first | rfl | exact loadC_eq
theorem fd_agg {off n : Nat} {g : Bool} {cs : List A} : Field off n g h K (.agg cs) = LoadC n h K g (cs.drop off) := Eq.trans rfl rfl

def IaddrB (e : Elt) (h : Heap) (K : A → Heap → Prop) (id N off len : Nat) (n : Int) : Option HB → Prop
  | some (.cells e' rows) => e' = e ∧ N = rows.length ∧ 0 ≤ n ∧ n < len ∧ K (.ptr id N (off + n.toNat) 0) h
  | _ => False
def Iaddr (e : Elt) (h : Heap) (K : A → Heap → Prop) : A → A → Prop
  | .d (.sl e' rows), .d (.sc (.int _ n)) => e' = e ∧ 0 ≤ n ∧ n < rows.length ∧ K (.iptr (rows.getD n.toNat [])) h
  | .nn e' rows, .d (.sc (.int _ n)) => e' = e ∧ 0 ≤ n ∧ n < rows.length ∧ K (.iptr (rows.getD n.toNat [])) h
  | .ref id N off len _, .d (.sc (.int _ n)) => IaddrB e h K id N off len n h[id]?
  | _, _ => False
theorem x_iaddr {e : Elt} {x i : XO} : exec F pl (.iaddr e x i) ev h K = Iaddr e h K (ev x) (ev i) := by
  simp only [exec, Iaddr]
  generalize ev x = a
  generalize ev i = b
  rcases a with _ | _ | (v | _) | _ | _ | _ | _ | _ | _ | _ | _ <;> try rfl
theorem i_sl {e e' : Elt} {rows : List (List D)} {k : IntKind} {n : Int} : Iaddr e h K (.d (.sl e' rows)) (.d (.sc (.int k n))) = (e' = e ∧ 0 ≤ n ∧ n < rows.length ∧ K (.iptr (rows.getD n.toNat [])) h) := Eq.trans rfl rfl
theorem i_nn {e e' : Elt} {rows : List (List D)} {k : IntKind} {n : Int} : Iaddr e h K (.nn e' rows) (.d (.sc (.int k n))) = (e' = e ∧ 0 ≤ n ∧ n < rows.length ∧ K (.iptr (rows.getD n.toNat [])) h) := Eq.trans rfl rfl
theorem i_ref {e : Elt} {id N off len : Nat} {full : Bool} {k : IntKind} {n : Int} : Iaddr e h K (.ref id N off len full) (.d (.sc (.int k n))) = IaddrB e h K id N off len n h[id]? := Eq.trans rfl rfl
theorem i_b {e e' : Elt} {rows : List (List A)} {id N off len : Nat} {n : Int} : IaddrB e h K id N off len n (some (.cells e' rows)) = (e' = e ∧ N = rows.length ∧ 0 ≤ n ∧ n < len ∧ K (.ptr id N (off + n.toNat) 0) h) := Eq.trans rfl rfl

def LenB (str : Bool) (h : Heap) (K : A → Heap → Prop) (N len : Nat) : Option HB → Prop
  | some (.cells _ rows) => str = false ∧ N = rows.length ∧ K (.int len) h
  | _ => False
def Len (str : Bool) (h : Heap) (K : A → Heap → Prop) : A → Prop
  | .nil => str = false ∧ K (.int 0) h
  | .d (.sl _ rows) => str = false ∧ K (.int rows.length) h
  | .nn _ rows => str = false ∧ K (.int rows.length) h
  | .ref id N _ len _ => LenB str h K N len h[id]?
  | .d (.sc (.string s)) => str = true ∧ K (.int s.size) h
  | _ => False
theorem x_len {str : Bool} {x : XO} : exec F pl (.len str x) ev h K = Len str h K (ev x) := by
  simp only [exec, Len]
  generalize ev x = a
  rcases a with _ | _ | (v | _) | _ | _ | _ | _ | _ | _ | _ | _ <;> try rfl
theorem n_nil {str : Bool} : Len str h K .nil = (str = false ∧ K (.int 0) h) := Eq.trans rfl rfl
theorem n_sl {str : Bool} {e : Elt} {rows : List (List D)} : Len str h K (.d (.sl e rows)) = (str = false ∧ K (.int rows.length) h) := Eq.trans rfl rfl
theorem n_nn {str : Bool} {e : Elt} {rows : List (List D)} : Len str h K (.nn e rows) = (str = false ∧ K (.int rows.length) h) := Eq.trans rfl rfl
theorem n_str {str : Bool} {s : ByteArray} : Len str h K (.d (.sc (.string s))) = (str = true ∧ K (.int s.size) h) := Eq.trans rfl rfl
theorem n_ref {str full : Bool} {id N off len : Nat} : Len str h K (.ref id N off len full) = LenB str h K N len h[id]? := Eq.trans rfl rfl
theorem n_b {str : Bool} {N len : Nat} {e : Elt} {rows : List (List A)} : LenB str h K N len (some (.cells e rows)) = (str = false ∧ N = rows.length ∧ K (.int len) h) := Eq.trans rfl rfl

def Un (op : UnOp) (h : Heap) (K : A → Heap → Prop) : A → Prop
  | .d (.sc a) => BinK h K (unRes op a)
  | _ => False
theorem x_un {op : UnOp} {x : XO} : exec F pl (.un op x) ev h K = Un op h K (ev x) := by
  simp only [exec, Un]
  generalize ev x = a
  rcases a with _ | _ | (v | _) | _ | _ | _ | _ | _ | _ | _ | _ <;> try rfl
theorem u_not {b : Bool} : Un .not h K (.bool b) = K (.bool (!b)) h := by simp [Un, unRes, BinK]
theorem u_neg {k : IntKind} {n : Int} : Un .neg h K (.d (.sc (.int k n))) = K (.sc (.int k (k.wrap (0 - n)))) h := by simp [Un, unRes, BinK]

def Call (F : Fns) (h : Heap) (K : A → Heap → Prop) (args : List A) : A → Prop
  | .fn g caps => A.underL 0 (args ++ caps) = true ∧ ∃ r, F.pure g (args ++ caps) r ∧ K r h
  | _ => False
theorem x_call {f : XO} {args : List XO} : exec F pl (.call f args) ev h K = Call F h K (args.map ev) (ev f) := by
  simp only [exec, Call]
  generalize ev f = a
  cases a <;> rfl
/-- A call, by the contract of what is called. -/
theorem c_fn {g : FuncId} {args : List A} {r : A} (hf : FnP Γ.t P g args r) (h0 : A.underL 0 args = true) (hK : K r h) : Call (.all Γ P) h K args (.fn g []) := by
  simp only [Call, List.append_nil]
  exact ⟨h0, r, hf, hK⟩

end Go.Proofs.YtmagahmklndcgaaDoor.Nx
