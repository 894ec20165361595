/- cellrow.Text: from the walk through its code to a contract. -/
import Derived.Test.YtckglkbbdbmdkaaDoorNxQ3
import Derived.Test.YtckglkbbdbmdkaaDoorNxFn2
import Derived.Test.YtckglkbbdbmdkaaDoorNxEval
import Derived.Below
namespace Go.Proofs.YtckglkbbdbmdkaaDoor.Nx
set_option linter.unusedSimpArgs false
set_option linter.unusedVariables false
set_option linter.unnecessarySimpa false
open Go Go.RowKit

/-- The texts of cells, one after the other. -/
def txt (l : List ByteArray) : List UInt8 := l.flatMap fun s => s.data.toList
theorem txt_succ {l : List ByteArray} {i : Nat} (h : i < l.length) : txt (l.take (i + 1)) = txt (l.take i) ++ l[i].data.toList := by
  rw [List.take_succ_eq_append_getElem h, txt, List.flatMap_append]; simp [txt]

/-- What the walk through cellrow.Text shows. -/
def TextWalk (P : Program) (f : FuncId) : Prop := ∀ (l : List ByteArray) (ao : Option Addr) (cap : Nat) (w : World), l.length ≤ 100000 → (∀ s ∈ l, s.size ≤ 1000) →
    (∀ i (hi : i < l.length), ∃ a : Addr, ao = some a ∧ a.block < w.heap.size ∧ w.cell? (a.add (i * 5)) = some (.string l[i]) ∧ ∃ v1 v2 v3 v4 : Int, w.cell? (a.add (i * 5 + 1)) = some (.int .i64 v1) ∧ w.cell? (a.add (i * 5 + 2)) = some (.int .i64 v2) ∧ w.cell? (a.add (i * 5 + 3)) = some (.int .i64 v3) ∧ w.cell? (a.add (i * 5 + 4)) = some (.int .i64 v4)) →
    Calls P f #[.slice ao l.length cap] w fun e w' => e = .returned (.string ⟨(txt l).toArray⟩) ∧ Below w.heap.size w w'

def textC (l : List Ce) : ByteArray := ⟨(txt (l.map Ce.text)).toArray⟩
abbrev TextOk (Γ : Tabs) (P : Program) (f : FuncId) : Prop := ∀ l : List Ce, l.length ≤ 1000 → (∀ c ∈ l, c.text.size ≤ 1000) → FnP Γ P f [.d (.sl eCe (ceRows l))] (.str (textC l))

theorem txt_len : ∀ (l : List ByteArray), (∀ s ∈ l, s.size ≤ 1000) → (txt l).length ≤ 1000 * l.length
  | [], _ => by simp [txt]
  | s :: l, h => by
    have h1 := txt_len l fun x hx => h x (List.mem_cons_of_mem _ hx)
    have h2 : s.data.toList.length ≤ 1000 := h s (List.mem_cons_self ..)
    have h3 : txt (s :: l) = s.data.toList ++ txt l := by simp [txt]
    rw [h3, List.length_append, List.length_cons]
    omega
theorem textC_size {l : List Ce} (h : ∀ c ∈ l, c.text.size ≤ 1000) : (textC l).size ≤ 1000 * l.length := by
  have := txt_len (l.map Ce.text) (by simpa using h)
  rw [List.length_map] at this
  simpa [textC, ByteArray.size] using this

theorem text_fn {P : Program} {f : FuncId} {Γ : Tabs} {N : Nat} {res : List XR} {x : XC} (H : FnIs P f N res x) (W : TextWalk P f) : TextOk Γ P f := by
  intro l hl hs
  refine ⟨H.enters, fun M w vs bnd T hargs => ?_⟩
  obtain ⟨h1, h2⟩ := hargs
  have h3 := h2 0 _ rfl
  have hvs : vs = #[vs.getD 0 undef] := by
    rcases vs with ⟨q⟩
    match q, h1 with
    | [a], _ => rfl
  generalize vs.getD 0 undef = y at h3 hvs
  subst hvs
  have key : ∃ ao cap, y = .slice ao l.length cap ∧ ∀ i (hi : i < (l.map Ce.text).length), ∃ a : Addr, ao = some a ∧ a.block < w.heap.size ∧ w.cell? (a.add (i * 5)) = some (.string (l.map Ce.text)[i]) ∧ ∃ v1 v2 v3 v4 : Int, w.cell? (a.add (i * 5 + 1)) = some (.int .i64 v1) ∧ w.cell? (a.add (i * 5 + 2)) = some (.int .i64 v2) ∧ w.cell? (a.add (i * 5 + 3)) = some (.int .i64 v3) ∧ w.cell? (a.add (i * 5 + 4)) = some (.int .i64 v4) := by
    cases h3 with
    | d hx =>
      generalize hq : ceRows l = q at hx
      cases hx with
      | nil =>
        have : l = [] := by simpa [ceRows] using hq
        subst this
        exact ⟨_, _, rfl, fun i hi => absurd hi (by simp)⟩
      | sl u hl2 hm hb hsz hc hr =>
        subst hq
        refine ⟨_, _, by rw [show (ceRows l).length = l.length by simp [ceRows]], fun i hi => ?_⟩
        have hi' : i < l.length := by simpa using hi
        have hrow : (ceRows l)[i]? = some l[i].row := by rw [ceRows, List.getElem?_map, List.getElem?_eq_getElem hi']; rfl
        have c0 := (hc i _ 0 _ hrow rfl).1
        have c1 := (hc i _ 1 _ hrow rfl).1
        have c2 := (hc i _ 2 _ hrow rfl).1
        have c3 := (hc i _ 3 _ hrow rfl).1
        have c4 := (hc i _ 4 _ hrow rfl).1
        have r0 := hr i _ 0 _ hrow rfl
        have r1 := hr i _ 1 _ hrow rfl
        have r2 := hr i _ 2 _ hrow rfl
        have r3 := hr i _ 3 _ hrow rfl
        have r4 := hr i _ 4 _ hrow rfl
        generalize u i 0 = x0 at c0 r0
        generalize u i 1 = x1 at c1 r1
        generalize u i 2 = x2 at c2 r2
        generalize u i 3 = x3 at c3 r3
        generalize u i 4 = x4 at c4 r4
        cases r0; cases r1; cases r2; cases r3; cases r4
        refine ⟨_, rfl, ?_, ?_, _, _, _, _, c1, c2, c3, c4⟩
        · have := cell_lt c0
          unfold Addr.add at this
          split at this <;> exact this
        · simpa using c0
  obtain ⟨ao, cap, rfl, hk⟩ := key
  have := W (l.map Ce.text) ao cap w (by simp; omega) (by simpa using hs) hk
  rw [List.length_map] at this
  refine this.mono fun e w' ⟨he, hb⟩ => ?_
  have hz := textC_size hs
  refine ⟨_, he, .d (.sc (show (textC l).size ≤ maxLen from Nat.le_trans hz (by unfold maxLen; omega))), hb.os, hb.tape, hb.output, hb.size, fun b hlt _ => hb.block b hlt, fun id b p h => by simp at h, Nat.le_refl _, fun id B h => by omega⟩

/-- Text at closed arguments. -/
def extText (fT : FuncId) (f : FuncId) (args : List A) : Option A :=
  if f = fT then match args with
    | [.d x] => match crOf [x] with
      | some l => if l.length ≤ 1000 ∧ (∀ c ∈ l, c.text.size ≤ 1000) then some (.str (textC l)) else none
      | none => none
    | _ => none
  else none
theorem extText_ok {Γ : Tabs} {P : Program} {fT : FuncId} (H : TextOk Γ P fT) : ∀ f args r, extText fT f args = some r → FnP Γ P f args r := by
  intro f args r h
  unfold extText at h
  split at h
  · rename_i hf; subst hf
    split at h
    · split at h
      · rename_i l hl
        split at h
        · rename_i hs
          cases h
          have := crOf_ok hl
          simp only [List.cons.injEq, and_true] at this
          rw [this]
          exact H _ hs.1 hs.2
        · cases h
      · cases h
    · cases h
  · cases h

end Go.Proofs.YtckglkbbdbmdkaaDoor.Nx
