/- The own heap: new blocks, stores, growth. -/
import Derived.Test.YtckglkbbdbmdkaaDoorNxCore
namespace Go.Proofs.YtckglkbbdbmdkaaDoor.Nx
set_option linter.unusedSimpArgs false
set_option linter.unusedVariables false
set_option linter.unnecessarySimpa false
open Go

variable {w w' : World} {M : Nat → Prop} {ρ ρ' : Phys} {h h' : Heap}

theorem Evo.rep {n0 : Nat} (g : Evo n0 h ρ w h' ρ' w') {x : A} {v : Value} (hr : RepA w M ρ h x v) (hb : x.under n0 = true) : RepA w' M ρ' h' x v :=
  hr.move g.cell g.keep hb

theorem Evo.rep' (g : Evo h.length h ρ w h' ρ' w') {x : A} {v : Value} (hr : RepA w M ρ h x v) : RepA w' M ρ' h' x v :=
  g.rep hr hr.under

theorem SimH.lt (S : SimH w M ρ h) {id b p : Nat} (hp : ρ[id]? = some (some (b, p))) : b < w.heap.size := by
  have hid : id < h.length := by rw [← S.len]; exact (List.getElem?_eq_some_iff.1 hp).1
  obtain ⟨B, hB⟩ : ∃ B, h[id]? = some B := ⟨_, List.getElem?_eq_getElem hid⟩
  cases B with
  | cells e rows =>
    obtain ⟨_, _, _, _, h5⟩ := S.cells id e rows hB
    rcases h5 with ⟨h5, _⟩ | ⟨b', p', cs, t, h5, _, h6, _⟩
    · rw [hp] at h5; cases h5
    · rw [hp] at h5; cases h5; exact (Array.getElem?_eq_some_iff.1 h6).1
  | obj o =>
    obtain ⟨b', p', h5, _, h6, _⟩ := S.obj id o hB
    rw [hp] at h5; cases h5; exact (Array.getElem?_eq_some_iff.1 h6).1
  | res => rw [S.res id hB] at hp; cases hp

theorem SimH.notM (S : SimH w M ρ h) {id b p : Nat} (hp : ρ[id]? = some (some (b, p))) : ¬ M b := by
  have hid : id < h.length := by rw [← S.len]; exact (List.getElem?_eq_some_iff.1 hp).1
  obtain ⟨B, hB⟩ : ∃ B, h[id]? = some B := ⟨_, List.getElem?_eq_getElem hid⟩
  cases B with
  | cells e rows =>
    obtain ⟨_, _, _, _, h5⟩ := S.cells id e rows hB
    rcases h5 with ⟨h5, _⟩ | ⟨b', p', cs, t, h5, h6, _⟩
    · rw [hp] at h5; cases h5
    · rw [hp] at h5; cases h5; exact h6
  | obj o =>
    obtain ⟨b', p', h5, h6, _⟩ := S.obj id o hB
    rw [hp] at h5; cases h5; exact h6
  | res => rw [S.res id hB] at hp; cases hp

/-- What a step that lets the own heap be as it is keeps. -/
theorem SimH.same (S : SimH w M ρ h) (g : Evo h.length h ρ w h ρ w') (ho : ∀ id b p : Nat, ρ[id]? = some (some (b, p)) → w'.heap[b]? = w.heap[b]?) : SimH w' M ρ h where
  len := S.len
  cells id e rows hB := by
    obtain ⟨h1, h2, h3, h4, h5⟩ := S.cells id e rows hB
    refine ⟨h1, h2, h3, h4, ?_⟩
    rcases h5 with h5 | ⟨b, p, cs, t, h5, h6, h7, h8, h9, h10⟩
    · exact .inl h5
    · refine .inr ⟨b, p, cs, t, h5, h6, (ho _ _ _ h5).trans h7, h8, h9, fun i r j x hi hj => ?_⟩
      obtain ⟨v, k1, k2, k3⟩ := h10 i r j x hi hj
      exact ⟨v, k1, k2, g.rep' k3⟩
  obj id o hB := by
    obtain ⟨b, p, h1, h2, h3, h4⟩ := S.obj id o hB
    exact ⟨b, p, h1, h2, (ho _ _ _ h1).trans h3, h4⟩
  res := S.res
  inj := S.inj

theorem Evo.drew (n : Nat) (hn : n ≤ h.length) : Evo n h ρ w h ρ w.drew :=
  ⟨rfl, rfl, rfl, Nat.le_refl _, fun _ _ _ => rfl, fun id _ p hb => .inr ⟨id, p, hb⟩, hn, fun _ _ _ hb => .refl hb⟩

theorem SimH.drew (S : SimH w M ρ h) : SimH w.drew M ρ h := S.same (.drew _ (Nat.le_refl _)) fun _ _ _ _ => rfl

theorem heap_alloc_lt (w : World) (o : Obj) {b : Nat} (hb : b < w.heap.size) : (w.alloc o).heap[b]? = w.heap[b]? := by
  show (w.heap.push o)[b]? = _
  rw [Array.getElem?_push, if_neg (by omega)]

theorem heap_alloc_eq (w : World) (o : Obj) : (w.alloc o).heap[w.heap.size]? = some o := by
  show (w.heap.push o)[w.heap.size]? = _
  simp

theorem size_alloc_le (w : World) (o : Obj) : w.heap.size ≤ (w.alloc o).heap.size := by
  show _ ≤ (w.heap.push o).size
  simp

theorem Evo.alloc (n : Nat) (hn : n ≤ h.length) (o : Obj) : Evo n h ρ w h ρ (w.alloc o) :=
  ⟨rfl, rfl, rfl, size_alloc_le w o, fun _ hb _ => heap_alloc_lt w o hb, fun id _ p hb => .inr ⟨id, p, hb⟩, hn, fun _ _ _ hb => .refl hb⟩

theorem SimH.alloc (S : SimH w M ρ h) (o : Obj) : SimH (w.alloc o) M ρ h := S.same (.alloc _ (Nat.le_refl _) o) fun _ _ _ hp => heap_alloc_lt w o (S.lt hp)

theorem get_push {α : Type} {l : List α} {x y : α} {i : Nat} (hi : (l ++ [x])[i]? = some y) : l[i]? = some y ∨ (i = l.length ∧ y = x) := by
  rw [List.getElem?_append] at hi
  split at hi
  · exact .inl hi
  · rename_i hge
    have : i - l.length = 0 := by
      have := (List.getElem?_eq_some_iff.1 hi).1
      simp at this; omega
    rw [this] at hi
    simp at hi
    exact .inr ⟨by omega, hi.symm⟩

theorem get_old {α : Type} {l : List α} {x y : α} {i : Nat} (hi : l[i]? = some y) : (l ++ [x])[i]? = some y := by
  rw [List.getElem?_append_left (List.getElem?_eq_some_iff.1 hi).1]; exact hi

theorem get_set {α : Type} {l : List α} {x y : α} {i j : Nat} (hi : (l.set i x)[j]? = some y) : (j = i ∧ y = x) ∨ (j ≠ i ∧ l[j]? = some y) := by
  rw [List.getElem?_set] at hi
  split at hi
  · rename_i he
    split at hi
    · cases hi; exact .inl ⟨he.symm, rfl⟩
    · cases hi
  · rename_i hne
    exact .inr ⟨fun e => hne e.symm, hi⟩

/-- A new block of the own heap: behind the others, or at a place that was kept for it. -/
inductive NewAt (h : Heap) (ρ : Phys) (B : HB) (x : Option (Nat × Nat)) : Option Nat → Nat → Heap → Phys → Prop
  | push : NewAt h ρ B x none h.length (h ++ [B]) (ρ ++ [x])
  | set {id : Nat} (hr : h[id]? = some .res) : NewAt h ρ B x (some id) id (h.set id B) (ρ.set id x)

section
variable {B : HB} {x : Option (Nat × Nat)} {pl : Option Nat} {id : Nat} {h1 : Heap} {ρ1 : Phys}

theorem NewAt.heap (n : NewAt h ρ B x pl id h1 ρ1) : h1[id]? = some B := by
  cases n with
  | push => simp
  | set hr => exact List.getElem?_set_self (List.getElem?_eq_some_iff.1 hr).1

theorem NewAt.phys (n : NewAt h ρ B x pl id h1 ρ1) (hl : ρ.length = h.length) : ρ1[id]? = some x := by
  cases n with
  | push => rw [← hl]; simp
  | set hr => exact List.getElem?_set_self (by rw [hl]; exact (List.getElem?_eq_some_iff.1 hr).1)

theorem NewAt.len (n : NewAt h ρ B x pl id h1 ρ1) (hl : ρ.length = h.length) : ρ1.length = h1.length ∧ h.length ≤ h1.length := by
  cases n with
  | push => simp [hl]
  | set hr => simp [hl]

theorem NewAt.of_heap (n : NewAt h ρ B x pl id h1 ρ1) {i : Nat} {C : HB} (hi : h1[i]? = some C) : (i = id ∧ C = B) ∨ (i ≠ id ∧ h[i]? = some C) := by
  cases n with
  | push =>
    rcases get_push hi with hi | ⟨rfl, rfl⟩
    · have := (List.getElem?_eq_some_iff.1 hi).1
      exact .inr ⟨by omega, hi⟩
    · exact .inl ⟨rfl, rfl⟩
  | set hr => exact get_set hi

theorem NewAt.of_phys (n : NewAt h ρ B x pl id h1 ρ1) (hl : ρ.length = h.length) {i : Nat} {y : Option (Nat × Nat)} (hi : ρ1[i]? = some y) : (i = id ∧ y = x) ∨ (i ≠ id ∧ ρ[i]? = some y) := by
  cases n with
  | push =>
    rcases get_push hi with hi | ⟨rfl, rfl⟩
    · have := (List.getElem?_eq_some_iff.1 hi).1
      exact .inr ⟨by omega, hi⟩
    · exact .inl ⟨hl, rfl⟩
  | set hr => exact get_set hi

theorem NewAt.keep_heap (n : NewAt h ρ B x pl id h1 ρ1) {i : Nat} {C : HB} (hi : h[i]? = some C) (hc : C ≠ .res) : i ≠ id ∧ h1[i]? = some C := by
  cases n with
  | push =>
    have := (List.getElem?_eq_some_iff.1 hi).1
    exact ⟨by omega, get_old hi⟩
  | set hr =>
    have hne : i ≠ id := by rintro rfl; rw [hr] at hi; exact hc (Option.some.inj hi).symm
    exact ⟨hne, by rw [List.getElem?_set_ne (fun e => hne e.symm)]; exact hi⟩

theorem NewAt.keep_phys (n : NewAt h ρ B x pl id h1 ρ1) (hl : ρ.length = h.length) {i : Nat} (hi : i < h.length) (hne : i ≠ id) : ρ1[i]? = ρ[i]? := by
  cases n with
  | push => exact List.getElem?_append_left (by omega)
  | set hr => exact List.getElem?_set_ne (fun e => hne e.symm)

theorem Evo.atNew (n : NewAt h ρ B x pl id h1 ρ1) (hl : ρ.length = h.length) {w1 : World} (hos : w1.os = w.os) (ht : w1.tape = w.tape) (ho : w1.output = w.output) (hsz : w.heap.size ≤ w1.heap.size) (hold : ∀ b, b < w.heap.size → w1.heap[b]? = w.heap[b]?)
    (hx : ∀ b p : Nat, x = some (b, p) → w.heap.size ≤ b) : Evo h.length h ρ w h1 ρ1 w1 where
  os := hos
  tape := ht
  output := ho
  size := hsz
  old b hb _ := hold b hb
  fresh i b q hb := by
    rcases n.of_phys hl hb with ⟨_, he⟩ | ⟨_, hb⟩
    · exact .inl (hx b q he.symm)
    · exact .inr ⟨i, q, hb⟩
  len := (n.len hl).2
  keep i C hi hC := by
    cases C with
    | cells e rows =>
      obtain ⟨hne, h2⟩ := n.keep_heap hC (by simp)
      exact ⟨rows, h2, Nat.le_refl _, fun _ => n.keep_phys hl hi hne⟩
    | obj o' =>
      obtain ⟨hne, h2⟩ := n.keep_heap hC (by simp)
      exact ⟨⟨o', h2⟩, n.keep_phys hl hi hne⟩
    | res => trivial

theorem SimH.newAny (S : SimH w M ρ h) (n : NewAt h ρ B x pl id h1 ρ1) {w1 : World} (g : Evo h.length h ρ w h1 ρ1 w1) (hold : ∀ b, b < w.heap.size → w1.heap[b]? = w.heap[b]?) (hx : ∀ b p : Nat, x = some (b, p) → w.heap.size ≤ b)
    (hc : ∀ e rows, B = .cells e rows → CellsOk w1 M ρ1 h1 id e rows) (hob : ∀ o', B = .obj o' → ObjOk w1 M ρ1 id o') (hres : B ≠ .res) : SimH w1 M ρ1 h1 where
  len := (n.len S.len).1
  cells i e rows hB := by
    rcases n.of_heap hB with ⟨rfl, rfl⟩ | ⟨hne, hB⟩
    · exact hc e rows rfl
    · obtain ⟨q1, q2, q3, q4, q5⟩ := S.cells i e rows hB
      have hρ := n.keep_phys S.len (List.getElem?_eq_some_iff.1 hB).1 hne
      refine ⟨q1, q2, q3, q4, ?_⟩
      rcases q5 with ⟨h5, h6⟩ | ⟨b, q, cs, t, h5, h6, h7, h8, h9, h10⟩
      · exact .inl ⟨hρ.trans h5, h6⟩
      · refine .inr ⟨b, q, cs, t, hρ.trans h5, h6, (hold _ (S.lt h5)).trans h7, h8, h9, fun i r j x hi hj => ?_⟩
        obtain ⟨v, k1, k2, k3⟩ := h10 i r j x hi hj
        exact ⟨v, k1, k2, g.rep' k3⟩
  obj i o' hB := by
    rcases n.of_heap hB with ⟨rfl, rfl⟩ | ⟨hne, hB⟩
    · exact hob o' rfl
    · obtain ⟨b, q, q1, q2, q3, q4⟩ := S.obj i o' hB
      have hρ := n.keep_phys S.len (List.getElem?_eq_some_iff.1 hB).1 hne
      exact ⟨b, q, hρ.trans q1, q2, (hold _ (S.lt q1)).trans q3, q4⟩
  res i hB := by
    rcases n.of_heap hB with ⟨_, he⟩ | ⟨hne, hB⟩
    · exact absurd he.symm hres
    · rw [n.keep_phys S.len (List.getElem?_eq_some_iff.1 hB).1 hne]; exact S.res i hB
  inj i j b q q' hi hj := by
    rcases n.of_phys S.len hi with ⟨ei, hi⟩ | ⟨ei, hi⟩ <;> rcases n.of_phys S.len hj with ⟨ej, hj⟩ | ⟨ej, hj⟩
    · omega
    · have := hx b q hi.symm; have := S.lt hj; omega
    · have := hx b q' hj.symm; have := S.lt hi; omega
    · exact S.inj i j b q q' hi hj

theorem Evo.newAlloc {o : Obj} {p : Nat} (n : NewAt h ρ B (some (w.heap.size, p)) pl id h1 ρ1) (hl : ρ.length = h.length) : Evo h.length h ρ w h1 ρ1 (w.alloc o) :=
  .atNew n hl rfl rfl rfl (size_alloc_le w o) (fun _ hb => heap_alloc_lt w o hb) (fun b q he => by cases he; exact Nat.le_refl _)

theorem SimH.newCells (S : SimH w M ρ h) (bnd : ∀ b, M b → b < w.heap.size) {e : Elt} {rows : List (List A)} {cs : Array Value} (t : TypeId) (n : NewAt h ρ (.cells e rows) (some (w.heap.size, cs.size)) pl id h1 ρ1) (q1 : 0 < e.sz)
    (q2 : rows.length * e.bytes ≤ room) (q3 : rows.length ≤ maxLen) (q4 : ∀ r ∈ rows, r.length = e.sz) (q5 : rows.length * e.sz ≤ cs.size)
    (q6 : ∀ i r j x, rows[i]? = some r → r[j]? = some x → ∃ v, cs[i * e.sz + j]? = some v ∧ v.oneCell' = true ∧ RepA w M ρ h x v) :
    SimH (w.alloc (.cells cs t)) M ρ1 h1 := by
  have g := Evo.newAlloc (o := .cells cs t) n S.len
  refine S.newAny n g (fun _ hb => heap_alloc_lt w _ hb) (fun b q he => by cases he; exact Nat.le_refl _) (fun e' rows' he => ?_) (fun o' he => by cases he) (by simp)
  cases he
  refine ⟨q1, q2, q3, q4, .inr ⟨w.heap.size, cs.size, cs, t, n.phys S.len, fun hM => absurd (bnd _ hM) (Nat.lt_irrefl _), heap_alloc_eq w _, rfl, q5, fun i r j x hi hj => ?_⟩⟩
  obtain ⟨v, k1, k2, k3⟩ := q6 i r j x hi hj
  exact ⟨v, k1, k2, g.rep' k3⟩

theorem SimH.newObj (S : SimH w M ρ h) (bnd : ∀ b, M b → b < w.heap.size) {o : Obj} {p : Nat} (n : NewAt h ρ (.obj o) (some (w.heap.size, p)) pl id h1 ρ1) (ho : ∀ c t f, o ≠ .cells c t f) : SimH (w.alloc o) M ρ1 h1 := by
  have g := Evo.newAlloc (o := o) n S.len
  refine S.newAny n g (fun _ hb => heap_alloc_lt w _ hb) (fun b q he => by cases he; exact Nat.le_refl _) (fun e' rows' he => by cases he) (fun o' he => ?_) (by simp)
  cases he
  exact ⟨w.heap.size, p, n.phys S.len, fun hM => absurd (bnd _ hM) (Nat.lt_irrefl _), heap_alloc_eq w _, ho⟩

/-- A slice that is nil becomes an own block without rows. -/
theorem Evo.newNil {e : Elt} (n : NewAt h ρ (.cells e []) none pl id h1 ρ1) (hl : ρ.length = h.length) : Evo h.length h ρ w h1 ρ1 w :=
  .atNew n hl rfl rfl rfl (Nat.le_refl _) (fun _ _ => rfl) (fun b q he => by cases he)

theorem SimH.newNil (S : SimH w M ρ h) {e : Elt} (he : 0 < e.sz) (n : NewAt h ρ (.cells e []) none pl id h1 ρ1) : SimH w M ρ1 h1 := by
  refine S.newAny n (.newNil n S.len) (fun _ _ => rfl) (fun b q he => by cases he) (fun e' rows' hh => ?_) (fun o' he => by cases he) (by simp)
  cases hh
  exact ⟨he, by simp, by simp, by simp, .inl ⟨n.phys S.len, rfl⟩⟩

/-- Places are kept for blocks to come. -/
theorem Evo.reserve (k : Nat) (hl : ρ.length = h.length) : Evo h.length h ρ w (h ++ List.replicate k .res) (ρ ++ List.replicate k none) w where
  os := rfl
  tape := rfl
  output := rfl
  size := Nat.le_refl _
  old _ _ _ := rfl
  fresh i b q hb := by
    rw [List.getElem?_append] at hb
    split at hb
    · exact .inr ⟨i, q, hb⟩
    · have := List.mem_of_getElem? hb
      rw [List.mem_replicate] at this
      cases this.2
  len := by simp
  keep i C hi hC := by
    have e1 : (h ++ List.replicate k HB.res)[i]? = h[i]? := List.getElem?_append_left hi
    have e2 : (ρ ++ List.replicate k none)[i]? = ρ[i]? := List.getElem?_append_left (by omega)
    cases C with
    | cells e rows => exact ⟨rows, e1.trans hC, Nat.le_refl _, fun _ => e2⟩
    | obj o' => exact ⟨⟨o', e1.trans hC⟩, e2⟩
    | res => trivial

theorem SimH.reserve (S : SimH w M ρ h) (k : Nat) : SimH w M (ρ ++ List.replicate k none) (h ++ List.replicate k .res) := by
  have g := Evo.reserve (w := w) k S.len
  have hcase : ∀ (i : Nat) (C : HB), (h ++ List.replicate k HB.res)[i]? = some C → (h[i]? = some C ∧ (ρ ++ List.replicate k none)[i]? = ρ[i]?) ∨ (C = .res ∧ (ρ ++ List.replicate k none)[i]? = some none) := by
    intro i C hi
    have hlt := (List.getElem?_eq_some_iff.1 hi).1
    simp at hlt
    rw [List.getElem?_append] at hi
    split at hi
    · exact .inl ⟨hi, List.getElem?_append_left (by rw [S.len]; assumption)⟩
    · have := List.mem_of_getElem? hi
      rw [List.mem_replicate] at this
      refine .inr ⟨this.2, ?_⟩
      rw [List.getElem?_append_right (by rw [S.len]; omega), S.len]
      exact List.getElem?_replicate_of_lt (by omega)
  refine ⟨by simp [S.len], fun i e rows hB => ?_, fun i o hB => ?_, fun i hB => ?_, fun i j b p q hi hj => ?_⟩
  · rcases hcase i _ hB with ⟨hB, hρ⟩ | ⟨he, _⟩
    · obtain ⟨q1, q2, q3, q4, q5⟩ := S.cells i e rows hB
      refine ⟨q1, q2, q3, q4, ?_⟩
      rcases q5 with ⟨h5, h6⟩ | ⟨b, q, cs, t, h5, h6, h7, h8, h9, h10⟩
      · exact .inl ⟨hρ.trans h5, h6⟩
      · refine .inr ⟨b, q, cs, t, hρ.trans h5, h6, h7, h8, h9, fun i r j x hi hj => ?_⟩
        obtain ⟨v, k1, k2, k3⟩ := h10 i r j x hi hj
        exact ⟨v, k1, k2, g.rep' k3⟩
    · cases he
  · rcases hcase i _ hB with ⟨hB, hρ⟩ | ⟨he, _⟩
    · obtain ⟨b, q, q1, q2, q3, q4⟩ := S.obj i o hB
      exact ⟨b, q, hρ.trans q1, q2, q3, q4⟩
    · cases he
  · rcases hcase i _ hB with ⟨hB, hρ⟩ | ⟨_, hρ⟩
    · rw [hρ]; exact S.res i hB
    · exact hρ
  · have hcut : ∀ {i b p : Nat}, (ρ ++ List.replicate k none)[i]? = some (some (b, p)) → ρ[i]? = some (some (b, p)) := by
      intro i b p hb
      rw [List.getElem?_append] at hb
      split at hb
      · exact hb
      · have := List.mem_of_getElem? hb
        rw [List.mem_replicate] at this
        cases this.2
    exact S.inj i j b p q (hcut hi) (hcut hj)
end

/-- A world that differs from another one in one block only. -/
structure Differs (b : Nat) (w w' : World) : Prop where
  os : w'.os = w.os
  tape : w'.tape = w.tape
  output : w'.output = w.output
  size : w'.heap.size = w.heap.size
  other : ∀ k, k ≠ b → w'.heap[k]? = w.heap[k]?

/-- An own block is written: in place. -/
theorem Evo.put {id b p : Nat} {e : Elt} {rows rows' : List (List A)} (hid : h[id]? = some (.cells e rows)) (hρ : ρ[id]? = some (some (b, p))) (hw : Differs b w w')
    (hle : rows.length ≤ rows'.length) : Evo h.length h ρ w (h.set id (.cells e rows')) ρ w' where
  os := hw.os
  tape := hw.tape
  output := hw.output
  size := by rw [hw.size]; exact Nat.le_refl _
  old k hk hn := hw.other k fun he => hn id p (he ▸ hρ)
  fresh i b' p' hb := .inr ⟨i, p', hb⟩
  len := by simp
  keep i B hi hB := by
    have hid' : id < h.length := (List.getElem?_eq_some_iff.1 hid).1
    by_cases he : i = id
    · subst he
      rw [hid] at hB; cases hB
      exact ⟨rows', by simp [hid'], hle, fun _ => rfl⟩
    · have h1 : (h.set id (.cells e rows'))[i]? = some B := by rw [List.getElem?_set_ne (fun e => he e.symm)]; exact hB
      cases B with
      | cells e1 r1 => exact ⟨r1, h1, Nat.le_refl _, fun _ => rfl⟩
      | obj o1 => exact ⟨⟨o1, h1⟩, rfl⟩
      | res => trivial

theorem SimH.put (S : SimH w M ρ h) {id b p : Nat} {e : Elt} {rows rows' : List (List A)} {cs : Array Value} {t : TypeId} (hid : h[id]? = some (.cells e rows)) (hρ : ρ[id]? = some (some (b, p)))
    (hw : Differs b w w') (hle : rows.length ≤ rows'.length) (hcs : w'.heap[b]? = some (.cells cs t (0, 0))) (hp : cs.size = p)
    (h2 : rows'.length * e.bytes ≤ room) (h3 : rows'.length ≤ maxLen) (h4 : ∀ r ∈ rows', r.length = e.sz) (h5 : rows'.length * e.sz ≤ p)
    (h6 : ∀ i r j x, rows'[i]? = some r → r[j]? = some x → ∃ v, cs[i * e.sz + j]? = some v ∧ v.oneCell' = true ∧ RepA w M ρ h x v) :
    SimH w' M ρ (h.set id (.cells e rows')) where
  len := by simp [S.len]
  cells i e1 r1 hB := by
    have g := Evo.put (rows' := rows') hid hρ hw hle
    rcases get_set hB with ⟨rfl, he⟩ | ⟨hne, hB⟩
    · cases he
      refine ⟨(S.cells _ _ _ hid).1, h2, h3, h4, .inr ⟨b, p, cs, t, hρ, S.notM hρ, hcs, hp, h5, fun i r j x hi hj => ?_⟩⟩
      obtain ⟨v, k1, k2, k3⟩ := h6 i r j x hi hj
      exact ⟨v, k1, k2, g.rep' k3⟩
    · obtain ⟨k1, k2, k3, k4, k5⟩ := S.cells i e1 r1 hB
      refine ⟨k1, k2, k3, k4, ?_⟩
      rcases k5 with k5 | ⟨b1, p1, cs1, t1, k5, k6, k7, k8, k9, k10⟩
      · exact .inl k5
      · have hb : b1 ≠ b := fun he => hne (S.inj _ _ _ _ _ k5 (he ▸ hρ))
        refine .inr ⟨b1, p1, cs1, t1, k5, k6, (hw.other _ hb).trans k7, k8, k9, fun i r j x hi hj => ?_⟩
        obtain ⟨v, q1, q2, q3⟩ := k10 i r j x hi hj
        exact ⟨v, q1, q2, g.rep' q3⟩
  obj i o hB := by
    rcases get_set hB with ⟨rfl, he⟩ | ⟨hne, hB⟩
    · cases he
    · obtain ⟨b1, p1, k1, k2, k3, k4⟩ := S.obj i o hB
      have hb : b1 ≠ b := fun he => hne (S.inj _ _ _ _ _ k1 (he ▸ hρ))
      exact ⟨b1, p1, k1, k2, (hw.other _ hb).trans k3, k4⟩
  res i hB := by
    rcases get_set hB with ⟨_, he⟩ | ⟨_, hB⟩
    · cases he
    · exact S.res i hB
  inj := S.inj

/-- An object of the own heap is written. -/
theorem Evo.putObj {id b p : Nat} {o o' : Obj} (hid : h[id]? = some (.obj o)) (hρ : ρ[id]? = some (some (b, p))) (hw : Differs b w w') :
    Evo h.length h ρ w (h.set id (.obj o')) ρ w' where
  os := hw.os
  tape := hw.tape
  output := hw.output
  size := by rw [hw.size]; exact Nat.le_refl _
  old k hk hn := hw.other k fun he => hn id p (he ▸ hρ)
  fresh i b' p' hb := .inr ⟨i, p', hb⟩
  len := by simp
  keep i B hi hB := by
    have hid' : id < h.length := (List.getElem?_eq_some_iff.1 hid).1
    by_cases he : i = id
    · subst he
      rw [hid] at hB; cases hB
      exact ⟨⟨o', by simp [hid']⟩, rfl⟩
    · have h1 : (h.set id (.obj o'))[i]? = some B := by rw [List.getElem?_set_ne (fun e => he e.symm)]; exact hB
      cases B with
      | cells e1 r1 => exact ⟨r1, h1, Nat.le_refl _, fun _ => rfl⟩
      | obj o1 => exact ⟨⟨o1, h1⟩, rfl⟩
      | res => trivial

theorem SimH.putObj (S : SimH w M ρ h) {id b p : Nat} {o o' : Obj} (hid : h[id]? = some (.obj o)) (hρ : ρ[id]? = some (some (b, p)))
    (hw : Differs b w w') (hcs : w'.heap[b]? = some o') (ho : ∀ c t f, o' ≠ .cells c t f) : SimH w' M ρ (h.set id (.obj o')) where
  len := by simp [S.len]
  cells i e1 r1 hB := by
    have g := Evo.putObj (o' := o') hid hρ hw
    rcases get_set hB with ⟨rfl, he⟩ | ⟨hne, hB⟩
    · cases he
    · obtain ⟨k1, k2, k3, k4, k5⟩ := S.cells i e1 r1 hB
      refine ⟨k1, k2, k3, k4, ?_⟩
      rcases k5 with k5 | ⟨b1, p1, cs1, t1, k5, k6, k7, k8, k9, k10⟩
      · exact .inl k5
      · have hb : b1 ≠ b := fun he => hne (S.inj _ _ _ _ _ k5 (he ▸ hρ))
        refine .inr ⟨b1, p1, cs1, t1, k5, k6, (hw.other _ hb).trans k7, k8, k9, fun i r j x hi hj => ?_⟩
        obtain ⟨v, q1, q2, q3⟩ := k10 i r j x hi hj
        exact ⟨v, q1, q2, g.rep' q3⟩
  obj i o1 hB := by
    rcases get_set hB with ⟨rfl, he⟩ | ⟨hne, hB⟩
    · cases he
      exact ⟨b, p, hρ, S.notM hρ, hcs, ho⟩
    · obtain ⟨b1, p1, k1, k2, k3, k4⟩ := S.obj i o1 hB
      have hb : b1 ≠ b := fun he => hne (S.inj _ _ _ _ _ k1 (he ▸ hρ))
      exact ⟨b1, p1, k1, k2, (hw.other _ hb).trans k3, k4⟩
  res i hB := by
    rcases get_set hB with ⟨_, he⟩ | ⟨_, hB⟩
    · cases he
    · exact S.res i hB
  inj := S.inj

/-- An own block moves to a new place, with more rows. -/
theorem Evo.grow {id : Nat} {e : Elt} {rows rows' : List (List A)} (o : Obj) (p : Nat) (hid : h[id]? = some (.cells e rows)) (hlt : rows.length < rows'.length) :
    Evo h.length h ρ w (h.set id (.cells e rows')) (ρ.set id (some (w.heap.size, p))) (w.alloc o) where
  os := rfl
  tape := rfl
  output := rfl
  size := size_alloc_le w _
  old _ hb _ := heap_alloc_lt w o hb
  fresh i b q hb := by
    rcases get_set hb with ⟨_, hb⟩ | ⟨_, hb⟩
    · cases hb; exact .inl (Nat.le_refl _)
    · exact .inr ⟨i, q, hb⟩
  len := by simp
  keep i B hi hB := by
    have hid' : id < h.length := (List.getElem?_eq_some_iff.1 hid).1
    by_cases he : i = id
    · subst he
      rw [hid] at hB; cases hB
      exact ⟨rows', by simp [hid'], Nat.le_of_lt hlt, fun hr => by omega⟩
    · have h1 : (h.set id (.cells e rows'))[i]? = some B := by rw [List.getElem?_set_ne (fun e => he e.symm)]; exact hB
      have h2 : (ρ.set id (some (w.heap.size, p)))[i]? = ρ[i]? := List.getElem?_set_ne (fun e => he e.symm)
      cases B with
      | cells e1 r1 => exact ⟨r1, h1, Nat.le_refl _, fun _ => h2⟩
      | obj o1 => exact ⟨⟨o1, h1⟩, h2⟩
      | res => trivial

theorem SimH.grow (S : SimH w M ρ h) (bnd : ∀ b, M b → b < w.heap.size) {id : Nat} {e : Elt} {rows rows' : List (List A)} {cs : Array Value} (t : TypeId) (hid : h[id]? = some (.cells e rows))
    (hlt : rows.length < rows'.length)
    (h2 : rows'.length * e.bytes ≤ room) (h3 : rows'.length ≤ maxLen) (h4 : ∀ r ∈ rows', r.length = e.sz) (h5 : rows'.length * e.sz ≤ cs.size)
    (h6 : ∀ i r j x, rows'[i]? = some r → r[j]? = some x → ∃ v, cs[i * e.sz + j]? = some v ∧ v.oneCell' = true ∧ RepA w M ρ h x v) :
    SimH (w.alloc (.cells cs t)) M (ρ.set id (some (w.heap.size, cs.size))) (h.set id (.cells e rows')) where
  len := by simp [S.len]
  cells i e1 r1 hB := by
    have g := Evo.grow (w := w) (ρ := ρ) (rows' := rows') (.cells cs t) cs.size hid hlt
    have hid' : id < h.length := (List.getElem?_eq_some_iff.1 hid).1
    rcases get_set hB with ⟨rfl, he⟩ | ⟨hne, hB⟩
    · cases he
      refine ⟨(S.cells _ _ _ hid).1, h2, h3, h4, .inr ⟨w.heap.size, cs.size, cs, t, by rw [← S.len] at hid'; simp [hid'], fun hM => absurd (bnd _ hM) (Nat.lt_irrefl _), heap_alloc_eq w _, rfl, h5, fun i r j x hi hj => ?_⟩⟩
      obtain ⟨v, k1, k2, k3⟩ := h6 i r j x hi hj
      exact ⟨v, k1, k2, g.rep' k3⟩
    · have hρ : (ρ.set id (some (w.heap.size, cs.size)))[i]? = ρ[i]? := List.getElem?_set_ne (fun e => hne e.symm)
      obtain ⟨k1, k2, k3, k4, k5⟩ := S.cells i e1 r1 hB
      refine ⟨k1, k2, k3, k4, ?_⟩
      rcases k5 with ⟨k5, k6⟩ | ⟨b1, p1, cs1, t1, k5, k6, k7, k8, k9, k10⟩
      · exact .inl ⟨hρ.trans k5, k6⟩
      · refine .inr ⟨b1, p1, cs1, t1, hρ.trans k5, k6, (heap_alloc_lt w _ (S.lt k5)).trans k7, k8, k9, fun i r j x hi hj => ?_⟩
        obtain ⟨v, q1, q2, q3⟩ := k10 i r j x hi hj
        exact ⟨v, q1, q2, g.rep' q3⟩
  obj i o hB := by
    rcases get_set hB with ⟨rfl, he⟩ | ⟨hne, hB⟩
    · cases he
    · have hρ : (ρ.set id (some (w.heap.size, cs.size)))[i]? = ρ[i]? := List.getElem?_set_ne (fun e => hne e.symm)
      obtain ⟨b1, p1, k1, k2, k3, k4⟩ := S.obj i o hB
      exact ⟨b1, p1, hρ.trans k1, k2, (heap_alloc_lt w _ (S.lt k1)).trans k3, k4⟩
  res i hB := by
    rcases get_set hB with ⟨_, he⟩ | ⟨hne, hB⟩
    · cases he
    · rw [List.getElem?_set_ne (fun e => hne e.symm)]; exact S.res i hB
  inj i j b q q' hi hj := by
    rcases get_set hi with ⟨ei, hi⟩ | ⟨ei, hi⟩ <;> rcases get_set hj with ⟨ej, hj⟩ | ⟨ej, hj⟩
    · omega
    · cases hi; exact absurd (S.lt hj) (Nat.lt_irrefl _)
    · cases hj; exact absurd (S.lt hi) (Nat.lt_irrefl _)
    · exact S.inj i j b q q' hi hj

end Go.Proofs.YtckglkbbdbmdkaaDoor.Nx
