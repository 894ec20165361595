/- The abstract machine's values, and when they stand for the model's values in a world. -/
import Derived.WalkKit
import Derived.OrdersIn
import Derived.RangeFuncIn
namespace Go.Proofs.YtckglkbbdbmdkaaDoor.Nx
set_option linter.unusedSimpArgs false
set_option linter.unusedVariables false
set_option linter.unnecessarySimpa false
open Go

/-- An element type's size in cells and in bytes. -/
structure Elt where
  sz : Nat
  bytes : Nat

/-- The greatest number of bytes that a slice is let to hold: two to the 47th. -/
def room : Nat := 140737488355328

/-- What a cell holds: a scalar, or a slice that nobody writes any more, as the list of its rows. -/
inductive D where
  | sc (v : Value)
  | sl (e : Elt) (rows : List (List D))

/-- What a slot holds. 'ptr', 'ref': into the own heap: block, row, cell · block, its number of rows when the value was made, first row, length, whether the capacity reaches the block's rows. -/
inductive A where
  | any
  | nil
  | d (x : D)
  | nn (e : Elt) (rows : List (List D))
  | agg (l : List A)
  | tup (l : List A)
  | iptr (cs : List D)
  | ptr (id N i off : Nat)
  | ref (id N off len : Nat) (full : Bool)
  | fn (f : FuncId) (caps : List A)
  | yld (id : Nat)

inductive HB where
  | cells (e : Elt) (rows : List (List A))
  | obj (o : Obj)
  | res

abbrev Heap := List HB
abbrev Phys := List (Option (Nat × Nat))

def Own (M : Nat → Prop) (ρ : Phys) (b : Nat) : Prop := M b ∨ ∃ id p : Nat, ρ[id]? = some (some (b, p))

def scOk : Value → Prop
  | .int k n => k.min ≤ n ∧ n ≤ k.max
  | .string s => s.size ≤ maxLen
  | .agg _ | .tuple _ => False
  | _ => True

inductive RepD (w : World) (X : Nat → Prop) : D → Value → Prop
  | sc {v : Value} (h : scOk v) : RepD w X (.sc v) v
  | nil {e : Elt} {a : Option Addr} {cap : Nat} (hm : cap ≤ maxLen) (h0 : a = none → cap = 0) : RepD w X (.sl e []) (.slice a 0 cap)
  | sl {e : Elt} {rows : List (List D)} {a : Addr} {cap : Nat} (u : Nat → Nat → Value)
      (hl : rows.length ≤ cap) (hm : cap ≤ maxLen) (hb : rows.length * e.bytes ≤ room) (hsz : ∀ r ∈ rows, r.length = e.sz)
      (hc : ∀ i r j d, rows[i]? = some r → r[j]? = some d → w.cell? (a.add (i * e.sz + j)) = some (u i j) ∧ ¬ X a.block)
      (hr : ∀ i r j d, rows[i]? = some r → r[j]? = some d → RepD w X d (u i j)) :
      RepD w X (.sl e rows) (.slice (some a) rows.length cap)

inductive RepA (w : World) (M : Nat → Prop) (ρ : Phys) (h : Heap) : A → Value → Prop
  | any {v : Value} : RepA w M ρ h .any v
  | nil : RepA w M ρ h .nil (.slice none 0 0)
  | d {x : D} {v : Value} (hx : RepD w (Own M ρ) x v) : RepA w M ρ h (.d x) v
  | nn {e : Elt} {rows : List (List D)} {a : Addr} {n cap : Nat} (hx : RepD w (Own M ρ) (.sl e rows) (.slice (some a) n cap)) : RepA w M ρ h (.nn e rows) (.slice (some a) n cap)
  | agg {l : List A} {cs : Array Value} (hl : cs.size = l.length) (ho : ∀ v ∈ cs.toList, v.oneCell' = true)
      (hr : ∀ j x, l[j]? = some x → RepA w M ρ h x (cs.getD j undef)) : RepA w M ρ h (.agg l) (.agg cs)
  | tup {l : List A} {cs : Array Value} (hl : cs.size = l.length)
      (hr : ∀ j x, l[j]? = some x → RepA w M ρ h x (cs.getD j undef)) : RepA w M ρ h (.tup l) (.tuple cs)
  | iptr {cs : List D} {a : Addr} (u : Nat → Value) (hc : ∀ j d, cs[j]? = some d → w.cell? (a.add j) = some (u j) ∧ ¬ Own M ρ a.block)
      (hr : ∀ j d, cs[j]? = some d → RepD w (Own M ρ) d (u j)) : RepA w M ρ h (.iptr cs) (.pointer (some a))
  | ptr {id i off : Nat} {e : Elt} {rows : List (List A)} {b p : Nat} (hh : h[id]? = some (.cells e rows)) (hp : ρ[id]? = some (some (b, p))) :
      RepA w M ρ h (.ptr id rows.length i off) (.pointer (some ⟨b, i * e.sz + off, none⟩))
  | pstale {id N i off : Nat} {e : Elt} {rows : List (List A)} {v : Value} (hh : h[id]? = some (.cells e rows)) (hN : N < rows.length) (ho : v.oneCell' = true) :
      RepA w M ρ h (.ptr id N i off) v
  | obj {id : Nat} {o : Obj} {b p : Nat} (hh : h[id]? = some (.obj o)) (hp : ρ[id]? = some (some (b, p))) :
      RepA w M ρ h (.ptr id 0 0 0) (.pointer (some ⟨b, 0, none⟩))
  | stale {id N off len : Nat} {full : Bool} {e : Elt} {rows : List (List A)} {v : Value} (hh : h[id]? = some (.cells e rows)) (hN : N < rows.length) (ho : v.oneCell' = true) :
      RepA w M ρ h (.ref id N off len full) v
  | ref0 {id : Nat} {full : Bool} {e : Elt} (hh : h[id]? = some (.cells e [])) (hp : ρ[id]? = some none) : RepA w M ρ h (.ref id 0 0 0 full) (.slice none 0 0)
  | ref {id off len o cap : Nat} {full : Bool} {e : Elt} {rows : List (List A)} {b p : Nat} (hh : h[id]? = some (.cells e rows)) (hp : ρ[id]? = some (some (b, p)))
      (hlen : off + len ≤ rows.length) (hcap : len ≤ cap) (hm : cap ≤ maxLen) (ho : cap = 0 ∨ o = off * e.sz) (hphys : (off + cap) * e.sz ≤ p) (hfull : full = true → rows.length ≤ off + cap) :
      RepA w M ρ h (.ref id rows.length off len full) (.slice (some ⟨b, o, none⟩) len cap)
  | fn {f : FuncId} {l : List A} {cs : Array Value} (hl : cs.size = l.length) (hr : ∀ j x, l[j]? = some x → RepA w M ρ h x (cs.getD j undef)) :
      RepA w M ρ h (.fn f l) (.func (.func f) #[] cs)
  | yld {id : Nat} {o : Obj} {b p : Nat} (hh : h[id]? = some (.obj o)) (hp : ρ[id]? = some (some (b, p))) : RepA w M ρ h (.yld id) (.func (.yield b) #[] #[])

/-- A block of cells of the own heap. -/
def CellsOk (w : World) (M : Nat → Prop) (ρ : Phys) (h : Heap) (id : Nat) (e : Elt) (rows : List (List A)) : Prop :=
  0 < e.sz ∧ rows.length * e.bytes ≤ room ∧ rows.length ≤ maxLen ∧ (∀ r ∈ rows, r.length = e.sz) ∧
    ((ρ[id]? = some none ∧ rows = []) ∨
      ∃ (b p : Nat) (cs : Array Value) (t : TypeId), ρ[id]? = some (some (b, p)) ∧ ¬ M b ∧ w.heap[b]? = some (.cells cs t (0, 0)) ∧ cs.size = p ∧ rows.length * e.sz ≤ p ∧
        ∀ i r j x, rows[i]? = some r → r[j]? = some x → ∃ v, cs[i * e.sz + j]? = some v ∧ v.oneCell' = true ∧ RepA w M ρ h x v)

def ObjOk (w : World) (M : Nat → Prop) (ρ : Phys) (id : Nat) (o : Obj) : Prop :=
  ∃ b p : Nat, ρ[id]? = some (some (b, p)) ∧ ¬ M b ∧ w.heap[b]? = some o ∧ ∀ c t f, o ≠ .cells c t f

structure SimH (w : World) (M : Nat → Prop) (ρ : Phys) (h : Heap) : Prop where
  len : ρ.length = h.length
  cells : ∀ id e rows, h[id]? = some (.cells e rows) → CellsOk w M ρ h id e rows
  obj : ∀ id o, h[id]? = some (.obj o) → ObjOk w M ρ id o
  res : ∀ id : Nat, h[id]? = some .res → ρ[id]? = some none
  inj : ∀ i j b p q : Nat, ρ[i]? = some (some (b, p)) → ρ[j]? = some (some (b, q)) → i = j

/-- What a step keeps of an own block. -/
def Keeps (h' : Heap) (ρ ρ' : Phys) (id : Nat) : HB → Prop
  | .cells e rows => ∃ rows', h'[id]? = some (.cells e rows') ∧ rows.length ≤ rows'.length ∧ (rows'.length = rows.length → ρ'[id]? = ρ[id]?)
  | .obj _ => (∃ o', h'[id]? = some (.obj o')) ∧ ρ'[id]? = ρ[id]?
  | .res => True

structure Evo (n0 : Nat) (h : Heap) (ρ : Phys) (w : World) (h' : Heap) (ρ' : Phys) (w' : World) : Prop where
  os : w'.os = w.os
  tape : w'.tape = w.tape
  output : w'.output = w.output
  size : w.heap.size ≤ w'.heap.size
  old : ∀ b, b < w.heap.size → (∀ id p : Nat, ρ[id]? ≠ some (some (b, p))) → w'.heap[b]? = w.heap[b]?
  fresh : ∀ id b p : Nat, ρ'[id]? = some (some (b, p)) → w.heap.size ≤ b ∨ ∃ i q : Nat, ρ[i]? = some (some (b, q))
  len : n0 ≤ h'.length
  keep : ∀ id B, id < n0 → h[id]? = some B → Keeps h' ρ ρ' id B

theorem Keeps.refl {h : Heap} {ρ : Phys} {id : Nat} {B : HB} (hb : h[id]? = some B) : Keeps h ρ ρ id B := by
  cases B with
  | cells e rows => exact ⟨rows, hb, Nat.le_refl _, fun _ => rfl⟩
  | obj o => exact ⟨⟨o, hb⟩, rfl⟩
  | res => trivial

theorem Evo.refl (n0 : Nat) (h : Heap) (ρ : Phys) (w : World) (hn : n0 ≤ h.length) : Evo n0 h ρ w h ρ w :=
  ⟨rfl, rfl, rfl, Nat.le_refl _, fun _ _ _ => rfl, fun id _ p hb => .inr ⟨id, p, hb⟩, hn, fun _ _ _ hb => .refl hb⟩

theorem Evo.trans {n0 : Nat} {h h1 h2 : Heap} {ρ ρ1 ρ2 : Phys} {w w1 w2 : World} (a : Evo n0 h ρ w h1 ρ1 w1) (b : Evo n0 h1 ρ1 w1 h2 ρ2 w2) : Evo n0 h ρ w h2 ρ2 w2 where
  os := b.os.trans a.os
  tape := b.tape.trans a.tape
  output := b.output.trans a.output
  size := Nat.le_trans a.size b.size
  old k hk hn := by
    rw [b.old k (Nat.lt_of_lt_of_le hk a.size) ?_, a.old k hk hn]
    intro id p hp
    rcases a.fresh id k p hp with hf | ⟨i, q, hq⟩
    · omega
    · exact hn i q hq
  fresh id k p hp := by
    rcases b.fresh id k p hp with hf | ⟨i, q, hq⟩
    · exact .inl (Nat.le_trans a.size hf)
    · exact a.fresh i k q hq
  len := b.len
  keep id B hid hB := by
    have k1 := a.keep id B hid hB
    cases B with
    | cells e rows =>
      obtain ⟨rows1, g1, l1, r1⟩ := k1
      obtain ⟨rows2, g2, l2, r2⟩ := b.keep id _ hid g1
      exact ⟨rows2, g2, Nat.le_trans l1 l2, fun he => by rw [r2 (by omega), r1 (by omega)]⟩
    | obj o =>
      obtain ⟨⟨o1, g1⟩, r1⟩ := k1
      obtain ⟨⟨o2, g2⟩, r2⟩ := b.keep id _ hid g1
      exact ⟨⟨o2, g2⟩, r2.trans r1⟩
    | res => trivial

theorem Evo.mono {n0 n1 : Nat} {h h' : Heap} {ρ ρ' : Phys} {w w' : World} (a : Evo n0 h ρ w h' ρ' w') (hn : n1 ≤ n0) : Evo n1 h ρ w h' ρ' w' :=
  ⟨a.os, a.tape, a.output, a.size, a.old, a.fresh, Nat.le_trans hn a.len, fun id B hid hB => a.keep id B (Nat.lt_of_lt_of_le hid hn) hB⟩

theorem add_block (a : Addr) (n : Nat) : (a.add n).block = a.block := by unfold Addr.add; split <;> rfl

theorem add_off (b o n : Nat) : (⟨b, o, none⟩ : Addr).add n = ⟨b, o + n, none⟩ := by unfold Addr.add; split <;> simp_all

theorem cell_lt {w : World} {a : Addr} {u : Value} (h : w.cell? a = some u) : a.block < w.heap.size := by
  unfold World.cell? at h
  cases hb : w.heap[a.block]? with
  | none => simp [hb] at h
  | some o => exact (Array.getElem?_eq_some_iff.1 hb).1

theorem RepD.move {w w' : World} {X Y : Nat → Prop} (hm : ∀ a u, ¬ X a.block → w.cell? a = some u → w'.cell? a = some u ∧ ¬ Y a.block) {x : D} {v : Value} (h : RepD w X x v) : RepD w' Y x v := by
  induction h with
  | sc h => exact .sc h
  | nil hm h0 => exact .nil hm h0
  | sl u hl hm' hb hsz hc _ ih =>
    refine .sl u hl hm' hb hsz (fun i r j d hi hj => ?_) (fun i r j d hi hj => ih i r j d hi hj)
    obtain ⟨h1, h2⟩ := hc i r j d hi hj
    have := hm _ _ (by rw [add_block]; exact h2) h1
    rw [add_block] at this
    exact this

/-- What a step must keep for the values that the slots hold. -/
theorem Evo.cell {n0 : Nat} {h h' : Heap} {ρ ρ' : Phys} {w w' : World} {M : Nat → Prop} (g : Evo n0 h ρ w h' ρ' w') :
    ∀ a u, ¬ Own M ρ a.block → w.cell? a = some u → w'.cell? a = some u ∧ ¬ Own M ρ' a.block := by
  intro a u hx hc
  have hlt := cell_lt hc
  refine ⟨?_, ?_⟩
  · have := g.old a.block hlt (fun id p hp => hx (.inr ⟨id, p, hp⟩))
    rw [World.cell?_of_block this]; exact hc
  · rintro (hM | ⟨id, p, hp⟩)
    · exact hx (.inl hM)
    · rcases g.fresh id _ p hp with hf | ⟨i, q, hq⟩
      · omega
      · exact hx (.inr ⟨i, q, hq⟩)

mutual
/-- All blocks that a value points to are among the first n. -/
def A.under (n : Nat) : A → Bool
  | .agg l => A.underL n l
  | .tup l => A.underL n l
  | .fn _ l => A.underL n l
  | .ptr id _ _ _ => decide (id < n)
  | .ref id _ _ _ _ => decide (id < n)
  | .yld id => decide (id < n)
  | _ => true
def A.underL (n : Nat) : List A → Bool
  | [] => true
  | x :: xs => A.under n x && A.underL n xs
end

mutual
theorem A.under_mono {n m : Nat} : ∀ {x : A}, x.under n = true → n ≤ m → x.under m = true
  | .agg l, h, hm => A.underL_mono (l := l) h hm
  | .tup l, h, hm => A.underL_mono (l := l) h hm
  | .fn _ l, h, hm => A.underL_mono (l := l) h hm
  | .ptr _ _ _ _, h, hm => decide_eq_true (Nat.lt_of_lt_of_le (of_decide_eq_true h) hm)
  | .ref _ _ _ _ _, h, hm => decide_eq_true (Nat.lt_of_lt_of_le (of_decide_eq_true h) hm)
  | .yld _, h, hm => decide_eq_true (Nat.lt_of_lt_of_le (of_decide_eq_true h) hm)
  | .any, _, _ => rfl
  | .nil, _, _ => rfl
  | .d _, _, _ => rfl
  | .nn _ _, _, _ => rfl
  | .iptr _, _, _ => rfl
theorem A.underL_mono {n m : Nat} : ∀ {l : List A}, A.underL n l = true → n ≤ m → A.underL m l = true
  | [], _, _ => rfl
  | x :: l, h, hm => by
    simp only [A.underL, Bool.and_eq_true] at h ⊢
    exact ⟨A.under_mono h.1 hm, A.underL_mono h.2 hm⟩
end

theorem A.underL_get {n : Nat} {l : List A} (h : A.underL n l = true) {j : Nat} {x : A} (hj : l[j]? = some x) : x.under n = true := by
  induction l generalizing j with
  | nil => simp at hj
  | cons y ys ih =>
    simp only [A.underL, Bool.and_eq_true] at h
    cases j with
    | zero => simp at hj; exact hj ▸ h.1
    | succ j => simp at hj; exact ih h.2 hj

theorem A.underL_of {n : Nat} {l : List A} (h : ∀ (j : Nat) (x : A), l[j]? = some x → x.under n = true) : A.underL n l = true := by
  induction l with
  | nil => rfl
  | cons y ys ih =>
    simp only [A.underL, Bool.and_eq_true]
    exact ⟨h 0 y rfl, ih fun j x hj => h (j + 1) x (by simpa using hj)⟩

theorem RepA.under {w : World} {M : Nat → Prop} {ρ : Phys} {h : Heap} {x : A} {v : Value} (hr : RepA w M ρ h x v) : x.under h.length = true := by
  have lt {id : Nat} {B : HB} (hh : h[id]? = some B) : id < h.length := (List.getElem?_eq_some_iff.1 hh).1
  induction hr with
  | agg _ _ _ ih => simp only [A.under]; exact A.underL_of ih
  | tup _ _ ih => simp only [A.under]; exact A.underL_of ih
  | fn _ _ ih => simp only [A.under]; exact A.underL_of ih
  | ptr hh _ => simp [A.under, lt hh]
  | pstale hh _ _ => simp [A.under, lt hh]
  | obj hh _ => simp [A.under, lt hh]
  | stale hh _ _ => simp [A.under, lt hh]
  | ref0 hh _ => simp [A.under, lt hh]
  | ref hh _ _ _ _ _ _ _ => simp [A.under, lt hh]
  | yld hh _ => simp [A.under, lt hh]
  | _ => rfl

theorem RepA.move {n0 : Nat} {w w' : World} {M M' : Nat → Prop} {ρ ρ' : Phys} {h h' : Heap}
    (hm : ∀ a u, ¬ Own M ρ a.block → w.cell? a = some u → w'.cell? a = some u ∧ ¬ Own M' ρ' a.block)
    (hk : ∀ id B, id < n0 → h[id]? = some B → Keeps h' ρ ρ' id B) {x : A} {v : Value} (hr : RepA w M ρ h x v) (hb : x.under n0 = true) : RepA w' M' ρ' h' x v := by
  induction hr with
  | any => exact .any
  | nil => exact .nil
  | d hx => exact .d (hx.move hm)
  | nn hx => exact .nn (hx.move hm)
  | agg hl ho _ ih => exact .agg hl ho fun j x hj => ih j x hj (A.underL_get hb hj)
  | tup hl _ ih => exact .tup hl fun j x hj => ih j x hj (A.underL_get hb hj)
  | fn hl _ ih => exact .fn hl fun j x hj => ih j x hj (A.underL_get hb hj)
  | iptr u hc hr =>
    refine .iptr u (fun j d hj => ?_) (fun j d hj => (hr j d hj).move hm)
    obtain ⟨h1, h2⟩ := hc j d hj
    have := hm _ _ (by rw [add_block]; exact h2) h1
    rw [add_block] at this
    exact this
  | ptr hh hp =>
    obtain ⟨rows', h1, h2, h3⟩ := hk _ _ (of_decide_eq_true hb) hh
    rcases Nat.lt_or_ge _ rows'.length with hlt | hge
    · exact .pstale h1 hlt rfl
    · have he : rows'.length = _ := Nat.le_antisymm hge h2
      rw [← he]
      exact .ptr h1 ((h3 he).trans hp)
  | pstale hh hN ho =>
    obtain ⟨rows', h1, h2, h3⟩ := hk _ _ (of_decide_eq_true hb) hh
    exact .pstale h1 (by omega) ho
  | obj hh hp =>
    obtain ⟨⟨o', h1⟩, h2⟩ := hk _ _ (of_decide_eq_true hb) hh
    exact .obj h1 (h2.trans hp)
  | yld hh hp =>
    obtain ⟨⟨o', h1⟩, h2⟩ := hk _ _ (of_decide_eq_true hb) hh
    exact .yld h1 (h2.trans hp)
  | stale hh hN ho =>
    obtain ⟨rows', h1, h2, h3⟩ := hk _ _ (of_decide_eq_true hb) hh
    exact .stale h1 (by omega) ho
  | ref0 hh hp =>
    obtain ⟨rows', h1, h2, h3⟩ := hk _ _ (of_decide_eq_true hb) hh
    rcases Nat.lt_or_ge 0 rows'.length with hlt | hge
    · exact .stale h1 hlt rfl
    · have he : rows' = [] := List.eq_nil_of_length_eq_zero (by omega)
      subst he
      exact .ref0 h1 ((h3 rfl).trans hp)
  | ref hh hp hlen hcap hm' ho hphys hfull =>
    obtain ⟨rows', h1, h2, h3⟩ := hk _ _ (of_decide_eq_true hb) hh
    rcases Nat.lt_or_ge _ rows'.length with hlt | hge
    · exact .stale h1 hlt rfl
    · have he : rows'.length = _ := Nat.le_antisymm hge h2
      rw [← he]
      exact .ref h1 ((h3 he).trans hp) (by omega) hcap hm' ho hphys (fun hf => by have := hfull hf; omega)

end Go.Proofs.YtckglkbbdbmdkaaDoor.Nx
