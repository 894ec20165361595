/- One step at a time: what simp is given to walk a region. -/
import Derived.Test.YtmagahmklndcgaaDoorNxCheck
namespace Go.Proofs.YtmagahmklndcgaaDoor.Nx
set_option linter.unusedSimpArgs false
set_option linter.unusedVariables false
set_option linter.unnecessarySimpa false
open Go

variable {P : Program} {F : Fns}

/-- The rest of a region. -/
def Cont (F : Fns) (b : Nat) (os : List XOper) (K : St → Prop) (s : St) : Prop := runX F b os s K

/-- Behind an operation: its result is put down. -/
def Lay (d : Option Nat) (sl : Nat → A) (k : St → Prop) (r : A) (h : Heap) : Prop := k ⟨put d r sl, h⟩

/-- An operation under a guard. -/
def Grd (F : Fns) (pl : Option Nat) (d : Option Nat) (t : Bool) (op : XOp) (sl : Nat → A) (h : Heap) (k : St → Prop) : A → Prop
  | .d (.sc (.bool c)) => if c = t then exec F pl op (ev sl) h (Lay d sl k) else k ⟨put d undefA sl, h⟩
  | .tup [] => k ⟨put d undefA sl, h⟩
  | _ => False

theorem x_nil {b : Nat} {K : St → Prop} {s : St} : runX F b [] s K = K s := Eq.trans rfl rfl
theorem x_cons {b : Nat} {o : XOper} {os : List XOper} {K : St → Prop} {s : St} : runX F b (o :: os) s K = stepX F b o s (Cont F b os K) := Eq.trans rfl rfl
theorem x_cont {b : Nat} {os : List XOper} {K : St → Prop} {sl : Nat → A} {h : Heap} : Cont F b os K ⟨sl, h⟩ = runX F b os ⟨sl, h⟩ K := Eq.trans rfl rfl
theorem x_step {b : Nat} {d : Option Nat} {op : XOp} {sl : Nat → A} {h : Heap} {k : St → Prop} : stepX F b ⟨d, op, none, none⟩ ⟨sl, h⟩ k = exec F none op (ev sl) h (Lay d sl k) := Eq.trans rfl rfl
theorem x_stepP {b : Nat} {d : Option Nat} {op : XOp} {n : Nat} {sl : Nat → A} {h : Heap} {k : St → Prop} : stepX F b ⟨d, op, none, some n⟩ ⟨sl, h⟩ k = exec F (some (b + n)) op (ev sl) h (Lay d sl k) := Eq.trans rfl rfl
theorem x_stepG {b : Nat} {d : Option Nat} {op : XOp} {g : Nat} {t : Bool} {pl : Option Nat} {sl : Nat → A} {h : Heap} {k : St → Prop} :
    stepX F b ⟨d, op, some (g, t), pl⟩ ⟨sl, h⟩ k = Grd F (pl.map (b + ·)) d t op sl h k (sl g) := by
  unfold stepX XOper.live Grd
  dsimp only
  generalize sl g = x
  cases x with
  | d y => cases y with
    | sc v => cases v with
      | bool c =>
        dsimp only
        by_cases hc : c = t
        · rw [if_pos hc, if_pos hc]; rfl
        · rw [if_neg hc, if_neg hc]; rfl
      | _ => rfl
    | sl _ _ => rfl
  | tup l => cases l <;> rfl
  | _ => rfl
theorem x_lay {d : Nat} {sl : Nat → A} {k : St → Prop} {r : A} {h : Heap} : Lay (some d) sl k r h = k ⟨upd sl d r, h⟩ := Eq.trans rfl rfl
theorem x_lay0 {sl : Nat → A} {k : St → Prop} {r : A} {h : Heap} : Lay none sl k r h = k ⟨sl, h⟩ := Eq.trans rfl rfl
theorem x_grd {pl d : Option Nat} {t c : Bool} {op : XOp} {sl : Nat → A} {h : Heap} {k : St → Prop} : Grd F pl d t op sl h k (.bool c) = if c = t then exec F pl op (ev sl) h (Lay d sl k) else k ⟨put d undefA sl, h⟩ := Eq.trans rfl rfl
theorem x_grd0 {pl d : Option Nat} {t : Bool} {op : XOp} {sl : Nat → A} {h : Heap} {k : St → Prop} : Grd F pl d t op sl h k (.tup []) = k ⟨put d undefA sl, h⟩ := Eq.trans rfl rfl
theorem x_put {d : Nat} {r : A} {sl : Nat → A} : put (some d) r sl = upd sl d r := Eq.trans rfl rfl
theorem x_put0 {r : A} {sl : Nat → A} : put none r sl = sl := Eq.trans rfl rfl
theorem x_upd {sl : Nat → A} {d n : Nat} {r : A} : upd sl d r n = if n = d then r else sl n := Eq.trans rfl rfl
theorem x_evt {sl : Nat → A} {n : Nat} : ev sl (.t n) = sl n := Eq.trans rfl rfl
theorem x_evk {sl : Nat → A} {a : A} : ev sl (.k a) = a := Eq.trans rfl rfl
theorem x_evf {sl : Nat → A} {f : FuncId} : ev sl (.f f) = .fn f [] := Eq.trans rfl rfl
theorem x_then {K : St → Prop} {Q : Exit → St → Prop} {s : St} : thenQ K Q .normal s = K s := Eq.trans rfl rfl
theorem x_thenR {K : St → Prop} {Q : Exit → St → Prop} {s : St} : thenQ K Q .ret s = Q .ret s := Eq.trans rfl rfl
theorem x_thenE {K : St → Prop} {Q : Exit → St → Prop} {s : St} {i : Nat} : thenQ K Q (.exit i) s = Q (.exit i) s := Eq.trans rfl rfl
theorem x_block {Q : Exit → St → Prop} {s : St} {i : Nat} : blockQ i Q .normal s = Q .normal s := Eq.trans rfl rfl
theorem x_blockR {Q : Exit → St → Prop} {s : St} {i : Nat} : blockQ i Q .ret s = Q .ret s := Eq.trans rfl rfl
theorem x_blockE {Q : Exit → St → Prop} {s : St} {i j : Nat} : blockQ i Q (.exit j) s = if j = i then Q .normal s else Q (.exit j) s := Eq.trans rfl rfl
theorem x_mov {pl : Option Nat} {x : XO} {ev : XO → A} {h : Heap} {K : A → Heap → Prop} : exec F pl (.mov x) ev h K = K (ev x) h := Eq.trans rfl rfl
theorem x_look {k n : Nat} {x : A} {l : List (Nat × A)} : look ((k, x) :: l) n = if n = k then x else look l n := Eq.trans rfl rfl
theorem x_look0 {n : Nat} : look [] n = .any := Eq.trans rfl rfl

/-! ### Operation by operation -/
section ops
variable {pl : Option Nat} {ev : XO → A} {h : Heap} {K : A → Heap → Prop}

def BinK (h : Heap) (K : A → Heap → Prop) : Option Value → Prop
  | some v => K (.sc v) h
  | none => False
def Bin (op : BinOp) (h : Heap) (K : A → Heap → Prop) : A → A → Prop
  | .d (.sc a), .d (.sc b) => BinK h K (binRes op a b)
  | _, _ => False
theorem x_bin {op : BinOp} {x y : XO} : exec F pl (.bin op x y) ev h K = Bin op h K (ev x) (ev y) := by
  simp only [exec, Bin]
  generalize ev x = a
  generalize ev y = b
  rcases a with _ | _ | (v | _) | _ | _ | _ | _ | _ | _ | _ | _ <;> rfl
variable {k : IntKind} {a b : Int}
theorem b_add : Bin .add h K (.d (.sc (.int k a))) (.d (.sc (.int k b))) = K (.sc (.int k (k.wrap (a + b)))) h := by simp [Bin, binRes, intRes, BinK]
theorem b_sub : Bin .sub h K (.d (.sc (.int k a))) (.d (.sc (.int k b))) = K (.sc (.int k (k.wrap (a - b)))) h := by simp [Bin, binRes, intRes, BinK]
theorem b_mul : Bin .mul h K (.d (.sc (.int k a))) (.d (.sc (.int k b))) = K (.sc (.int k (k.wrap (a * b)))) h := by simp [Bin, binRes, intRes, BinK]
theorem b_eql : Bin .eql h K (.d (.sc (.int k a))) (.d (.sc (.int k b))) = K (.bool (decide (a = b))) h := by simp [Bin, binRes, intRes, BinK]; rfl
theorem b_neq : Bin .neq h K (.d (.sc (.int k a))) (.d (.sc (.int k b))) = K (.bool (!decide (a = b))) h := by simp [Bin, binRes, intRes, BinK]; rfl
theorem b_lss : Bin .lss h K (.d (.sc (.int k a))) (.d (.sc (.int k b))) = K (.bool (decide (a < b))) h := by simp [Bin, binRes, intRes, BinK]
theorem b_leq : Bin .leq h K (.d (.sc (.int k a))) (.d (.sc (.int k b))) = K (.bool (decide (a ≤ b))) h := by simp [Bin, binRes, intRes, BinK]
theorem b_gtr : Bin .gtr h K (.d (.sc (.int k a))) (.d (.sc (.int k b))) = K (.bool (decide (b < a))) h := by simp [Bin, binRes, intRes, BinK]
theorem b_geq : Bin .geq h K (.d (.sc (.int k a))) (.d (.sc (.int k b))) = K (.bool (decide (b ≤ a))) h := by simp [Bin, binRes, intRes, BinK]
variable {s t : ByteArray}
theorem b_seql : Bin .eql h K (.d (.sc (.string s))) (.d (.sc (.string t))) = K (.bool (decide (s = t))) h := by simp [Bin, binRes, strRes, BinK]
theorem b_sneq : Bin .neq h K (.d (.sc (.string s))) (.d (.sc (.string t))) = K (.bool (!decide (s = t))) h := by simp [Bin, binRes, strRes, BinK]

def Pick (h : Heap) (K : A → Heap → Prop) (a b : A) : A → Prop
  | .d (.sc (.bool t)) => if t = true then K a h else K b h
  | _ => False
theorem x_pick {c x y : XO} : exec F pl (.pick c x y) ev h K = Pick h K (ev x) (ev y) (ev c) := by
  simp only [exec, Pick]
  generalize ev c = a
  rcases a with _ | _ | (v | _) | _ | _ | _ | _ | _ | _ | _ | _ <;> rfl
theorem x_pick_t {a b : A} {t : Bool} : Pick h K a b (.bool t) = if t = true then K a h else K b h := Eq.trans rfl rfl

def LoadC (n : Nat) (h : Heap) (K : A → Heap → Prop) : Bool → List A → Prop
  | true, l => n ≤ l.length ∧ K (.agg (l.take n)) h
  | false, c :: _ => K c h
  | false, [] => False
def LoadR (n : Nat) (g : Bool) (h : Heap) (K : A → Heap → Prop) (off : Nat) : Option (List A) → Prop
  | some r => LoadC n h K g (r.drop off)
  | none => False
def LoadB (n : Nat) (g : Bool) (h : Heap) (K : A → Heap → Prop) (N i off : Nat) : Option HB → Prop
  | some (.cells _ rows) => N = rows.length ∧ LoadR n g h K off rows[i]?
  | _ => False
def Load (n : Nat) (g : Bool) (h : Heap) (K : A → Heap → Prop) : A → Prop
  | .ptr id N i off => LoadB n g h K N i off h[id]?
  | .iptr cs => LoadC n h K g (cs.map .d)
  | _ => False
theorem loadC_eq {n : Nat} {g : Bool} {l : List A} : loadsTo n g l (fun a => K a h) = LoadC n h K g l := by
  cases g <;> cases l <;> simp [loadsTo, LoadC]
theorem x_load {n : Nat} {g : Bool} {x : XO} : exec F pl (.load n g x) ev h K = Load n g h K (ev x) := by
  simp only [exec, Load]
  generalize ev x = a
  cases a with
  | ptr id N i off =>
    dsimp only
    generalize h[id]? = o
    rcases o with _ | (⟨e, rows⟩ | _ | _)
    · rfl
    · dsimp only [LoadB]
      generalize rows[i]? = r
      cases r with
      | none => rfl
      | some r => simp only [loadC_eq]; rfl
    · rfl
    · rfl
  | iptr cs => exact loadC_eq
  | _ => rfl
theorem l_ptr {n id N i off : Nat} {g : Bool} : Load n g h K (.ptr id N i off) = LoadB n g h K N i off h[id]? := Eq.trans rfl rfl
theorem l_iptr {n : Nat} {g : Bool} {cs : List D} : Load n g h K (.iptr cs) = LoadC n h K g (cs.map .d) := Eq.trans rfl rfl
theorem l_b {n N i off : Nat} {g : Bool} {e : Elt} {rows : List (List A)} : LoadB n g h K N i off (some (.cells e rows)) = (N = rows.length ∧ LoadR n g h K off rows[i]?) := Eq.trans rfl rfl
theorem l_r {n off : Nat} {g : Bool} {r : List A} : LoadR n g h K off (some r) = LoadC n h K g (r.drop off) := Eq.trans rfl rfl
theorem l_t {n : Nat} {l : List A} : LoadC n h K true l = (n ≤ l.length ∧ K (.agg (l.take n)) h) := Eq.trans rfl rfl
theorem l_f {n : Nat} {c : A} {l : List A} : LoadC n h K false (c :: l) = K c h := Eq.trans rfl rfl

end ops
end Go.Proofs.YtmagahmklndcgaaDoor.Nx
