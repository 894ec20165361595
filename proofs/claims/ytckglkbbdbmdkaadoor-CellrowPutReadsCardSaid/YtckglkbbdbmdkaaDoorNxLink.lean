/- From a statement's reading of its arguments to the abstract machine's values. -/
import Derived.Test.YtckglkbbdbmdkaaDoorNxWalk
import Derived.ProofKit
import Derived.OpenShut
import Derived.Deep.DeepHandedRow
import Derived.WideKeyArgs
namespace Go.Proofs.YtckglkbbdbmdkaaDoor.Nx
set_option linter.unusedSimpArgs false
set_option linter.unusedVariables false
set_option linter.unnecessarySimpa false
open Go

/-- A type, as far as data goes. -/
inductive Ty where
  | int (k : IntKind)
  | bool
  | str
  | sl (e : Elt) (t : Ty)
  | st (ts : List Ty)

mutual
/-- Cells of a type. -/
def WT : Ty → List D → Prop
  | .int k, xs => ∃ n, xs = [.sc (.int k n)] ∧ k.min ≤ n ∧ n ≤ k.max
  | .bool, xs => ∃ b, xs = [.sc (.bool b)]
  | .str, xs => ∃ s, xs = [.sc (.string s)] ∧ s.size ≤ maxLen
  | .sl e t, xs => ∃ rows, xs = [.sl e rows] ∧ ∀ r ∈ rows, WT t r
  | .st ts, xs => WTs ts xs
def WTs : List Ty → List D → Prop
  | [], xs => xs = []
  | t :: ts, xs => ∃ a b, xs = a ++ b ∧ WT t a ∧ WTs ts b
end

def tyFields (P : Program) (rec : TypeId → Option Ty) : Nat → List Go.Field → Option (List Ty × Nat)
  | off, [] => some ([], off)
  | off, f :: fs => if f.offset = off then match rec f.type, tyFields P rec (off + P.cellsOf f.type) fs with
    | some t, some (ts, en) => some (t :: ts, en)
    | _, _ => none
    else none

def tyOf (P : Program) : Nat → TypeId → Option Ty
  | 0, _ => none
  | n + 1, t => match P.underlying t with
    | some .bool => if P.cellsOf t = 1 then some .bool else none
    | some (.int k) => if P.cellsOf t = 1 then some (.int k) else none
    | some .string => if P.cellsOf t = 1 then some .str else none
    | some (.slice e) => if P.cellsOf t = 1 then (tyOf P n e).map (.sl ⟨P.cellsOf e, P.bytesOf e⟩) else none
    | some (.struct fs) => match tyFields P (tyOf P n) 0 fs.toList with
      | some (ts, en) => if en = P.cellsOf t then some (.st ts) else none
      | none => none
    | some (.array n' e) => match tyOf P n e with
      | some u => if P.cellsOf t = n' * P.cellsOf e then some (.st (List.replicate n' u)) else none
      | none => none
    | _ => none

variable {H : Type} {enc : TypeId × Value → H} {P : Program} {w : World} {X : Nat → Prop}

theorem weightsAll_mem {e : TypeId} {d : DataW H} {k : Nat} (hk : k ∈ d.weights P e) : ∀ {l : List (DataW H)}, d ∈ l → k ∈ DataW.weightsAll P e l
  | [], h => by cases h
  | x :: l, h => by
    simp only [DataW.weightsAll, List.mem_append]
    rcases List.mem_cons.1 h with rfl | h
    · exact .inl hk
    · exact .inr (weightsAll_mem hk h)

/-- What is shown of one value's cells. -/
def Rep1 (P : Program) (w : World) (X : Nat → Prop) (t : TypeId) (ty : Ty) (cs : List Value) : Prop :=
  ∃ xs : List D, WT ty xs ∧ xs.length = P.cellsOf t ∧ cs.length = xs.length ∧ ∀ j x, xs[j]? = some x → RepD w X x (cs.getD j undef)

theorem fields_rep {rec : TypeId → Option Ty} {cs : List Value} : ∀ (fs : List Go.Field) (off : Nat) (tys : List Ty) (en : Nat), tyFields P rec off fs = some (tys, en) → en ≤ cs.length →
    (∀ f ∈ fs, ∀ ty, rec f.type = some ty → Rep1 P w X f.type ty ((cs.drop f.offset).take (P.cellsOf f.type))) →
    ∃ xs : List D, WTs tys xs ∧ off + xs.length = en ∧ ∀ j x, xs[j]? = some x → RepD w X x (cs.getD (off + j) undef)
  | [], off, tys, en, h, _, _ => by
    simp only [tyFields, Option.some.injEq, Prod.mk.injEq] at h
    obtain ⟨rfl, rfl⟩ := h
    exact ⟨[], by simp [WTs], rfl, fun j x hj => by simp at hj⟩
  | f :: fs, off, tys, en, h, hen, hf => by
    simp only [tyFields] at h
    split at h
    · rename_i ho
      split at h
      · rename_i t ts en' h1 h2
        simp only [Option.some.injEq, Prod.mk.injEq] at h
        obtain ⟨rfl, rfl⟩ := h
        obtain ⟨b, hb1, hb2, hb3⟩ := fields_rep fs _ ts en' h2 hen fun g hg => hf g (List.mem_cons_of_mem _ hg)
        obtain ⟨a, ha1, ha2, ha3, ha4⟩ := hf f (List.mem_cons_self ..) t h1
        refine ⟨a ++ b, ⟨a, b, rfl, ha1, hb1⟩, by simp [ha2]; omega, fun j x hj => ?_⟩
        rcases Nat.lt_or_ge j a.length with hlt | hge
        · rw [List.getElem?_append_left hlt] at hj
          have := ha4 j x hj
          simp only [List.getD_eq_getElem?_getD] at this ⊢
          rw [List.getElem?_take, if_pos (by omega), List.getElem?_drop, ho] at this
          exact this
        · rw [List.getElem?_append_right hge] at hj
          have := hb3 (j - a.length) x hj
          have e : off + P.cellsOf f.type + (j - a.length) = off + j := by omega
          rw [e] at this
          exact this
      · cases h
    · cases h

theorem weightsEach_get {k : Nat} : ∀ {fs : List Go.Field} {xs : List (DataW H × List MemPlace)} (i : Nat) (f : Go.Field) (x : DataW H × List MemPlace), fs[i]? = some f → xs[i]? = some x → k ∈ x.1.weights P f.type →
    k ∈ DataW.weightsEach P (fs.map (·.type)) (xs.map (·.1))
  | [], xs, i, f, x, hf, _, _ => by simp at hf
  | _ :: _, [], i, f, x, _, hx, _ => by simp at hx
  | g :: fs, y :: xs, i, f, x, hf, hx, hk => by
    simp only [List.map_cons, DataW.weightsEach, List.mem_append]
    cases i with
    | zero => simp at hf hx; subst hf hx; exact .inl hk
    | succ i => simp at hf hx; exact .inr (weightsEach_get i f x hf hx hk)

theorem addr_add (a : Addr) (i j : Nat) : (a.add i).add j = a.add (i + j) := by
  unfold Addr.add
  by_cases hi : i = 0
  · subst hi; simp
  · by_cases hj : j = 0
    · subst hj; simp [hi]
    · simp [hi, hj]
      have : i + j ≠ 0 := by omega
      simp [this, Nat.add_assoc]

theorem cells_get {a : Addr} {n : Nat} {l : List Value} (h : w.cells? 0 a n = some l) : l.length = n ∧ ∀ j, j < n → w.cell? (a.add j) = some (l.getD j undef) := by
  simp only [World.cells?, Nat.zero_le, if_true] at h
  obtain ⟨h1, h2⟩ := mapM_spec h
  simp only [List.length_range] at h1
  refine ⟨h1, fun j hj => ?_⟩
  obtain ⟨y, hy, hf⟩ := h2 j j (by rw [List.getElem?_range hj])
  rw [hf, List.getD_eq_getElem?_getD, hy]; rfl

theorem trod_array {base : Nat} {sp : Nat → Bool} {held : Bool} {fuel : Nat} {t e : TypeId} {k : Nat} {cs : List Value} {x : DataW H × List MemPlace} (ht : P.underlying t = some (.array k e)) (h : DataW.trod enc P w base sp held fuel t cs = some x) :
    ∃ (xs : List (DataW H × List MemPlace)) (n : Nat), fuel = n + 1 ∧ x = (.agg (xs.map (·.1)), xs.flatMap (·.2)) ∧ cs.length = P.cellsOf t ∧ (List.range k).mapM (fun i => DataW.trod enc P w base sp held n e ((cs.drop (i * P.cellsOf e)).take (P.cellsOf e))) = some xs := by
  cases fuel with
  | zero => simp [DataW.trod] at h
  | succ n =>
    unfold DataW.trod at h
    rw [ht] at h
    split at h <;> simp_all
    obtain ⟨hl, xs, hp, hd⟩ := h
    exact ⟨xs, hd.symm, hp⟩

theorem mapM_range {α : Type} {f : Nat → Option α} {n : Nat} {xs : List α} (h : (List.range n).mapM f = some xs) : xs.length = n ∧ ∀ i x, xs[i]? = some x → f i = some x := by
  obtain ⟨h1, h2⟩ := mapM_spec h
  simp only [List.length_range] at h1
  refine ⟨h1, fun i x hx => ?_⟩
  have hlt : i < n := by rw [← h1]; exact (List.getElem?_eq_some_iff.1 hx).1
  obtain ⟨y, hy, hf⟩ := h2 i i (by rw [List.getElem?_range hlt])
  rw [hx] at hy; cases hy; exact hf

/-- An array's cells, element by element. -/
theorem array_rep {e : TypeId} {u : Ty} {cs : List Value} : ∀ (n : Nat), n * P.cellsOf e ≤ cs.length → (∀ i, i < n → Rep1 P w X e u ((cs.drop (i * P.cellsOf e)).take (P.cellsOf e))) →
    ∃ xs : List D, WTs (List.replicate n u) xs ∧ xs.length = n * P.cellsOf e ∧ ∀ j x, xs[j]? = some x → RepD w X x (cs.getD j undef) := by
  intro n
  induction n generalizing cs with
  | zero => intro _ _; exact ⟨[], by simp [WTs], by simp, fun j x hj => by simp at hj⟩
  | succ n ih =>
    intro hn h
    obtain ⟨a, ha1, ha2, ha3, ha4⟩ := h 0 (Nat.zero_lt_succ n)
    have hn' : P.cellsOf e + n * P.cellsOf e ≤ cs.length := by rw [Nat.add_mul, Nat.one_mul] at hn; omega
    obtain ⟨b, hb1, hb2, hb3⟩ := ih (cs := cs.drop (P.cellsOf e)) (by simp; omega) (fun i hi => by
      have := h (i + 1) (by omega)
      rw [List.drop_drop]
      have e1 : P.cellsOf e + i * P.cellsOf e = (i + 1) * P.cellsOf e := by rw [Nat.add_mul, Nat.one_mul]; omega
      rw [e1]; exact this)
    refine ⟨a ++ b, ?_, by simp [ha2, hb2, Nat.add_mul]; omega, fun j x hj => ?_⟩
    · rw [List.replicate_succ]; exact ⟨a, b, rfl, ha1, hb1⟩
    · rcases Nat.lt_or_ge j a.length with hlt | hge
      · rw [List.getElem?_append_left hlt] at hj
        have := ha4 j x hj
        simp only [Nat.zero_mul, List.drop_zero, List.getD_eq_getElem?_getD] at this ⊢
        rw [List.getElem?_take, if_pos (by omega)] at this
        exact this
      · rw [List.getElem?_append_right hge] at hj
        have := hb3 (j - a.length) x hj
        simp only [List.getD_eq_getElem?_getD, List.getElem?_drop] at this ⊢
        have e1 : P.cellsOf e + (j - a.length) = j := by omega
        rw [e1] at this
        exact this

/-- What the statement's reading says of a value, the abstract machine may take for data. -/
theorem rep_of_trod (hX : ∀ b, ¬ X b) : ∀ (m : Nat) (t : TypeId) (ty : Ty), tyOf P m t = some ty → ∀ (n : Nat) (cs : List Value) (x : DataW H × List MemPlace), DataW.trod enc P w 0 (fun _ => true) true n t cs = some x →
    (∀ k ∈ x.1.weights P t, k ≤ reachBytes) → Rep1 P w X t ty cs ∧ cs.length = P.cellsOf t := by
  have one : ∀ {t : TypeId} {ty : Ty} {cs : List Value}, Rep1 P w X t ty cs → Rep1 P w X t ty cs ∧ cs.length = P.cellsOf t := fun h => ⟨h, by obtain ⟨xs, _, h2, h3, _⟩ := h; omega⟩
  intro m
  induction m with
  | zero => intro t ty h; simp [tyOf] at h
  | succ m ih =>
    intro t ty h n cs x hx hw
    simp only [tyOf] at h
    split at h
    · rename_i hu
      split at h <;> cases h
      rename_i sz1
      obtain ⟨b, rfl, rfl⟩ := DataW.trod_bool hu hx
      exact one ⟨[.sc (.bool b)], ⟨b, rfl⟩, by simp [sz1], rfl, fun j x hj => by cases j <;> simp at hj; subst hj; exact .sc trivial⟩
    · rename_i k hu
      split at h <;> cases h
      rename_i sz1
      obtain ⟨b, rfl, rfl, hb⟩ := DataW.trod_int hu hx
      simp only [Lit.wf, Bool.and_eq_true, decide_eq_true_eq] at hb
      exact one ⟨[.sc (.int k b)], ⟨b, rfl, hb⟩, by simp [sz1], rfl, fun j x hj => by cases j <;> simp at hj; subst hj; exact .sc hb⟩
    · rename_i hu
      split at h <;> cases h
      rename_i sz1
      obtain ⟨b, rfl, rfl, hb⟩ := DataW.trod_string hu hx
      exact one ⟨[.sc (.string b)], ⟨b, rfl, hb⟩, by simp [sz1], rfl, fun j x hj => by cases j <;> simp at hj; subst hj; exact .sc hb⟩
    · rename_i e hu
      split at h
      rotate_left
      · cases h
      rename_i sz1
      simp only [Option.map_eq_some_iff] at h
      obtain ⟨u, hu', rfl⟩ := h
      rcases DataW.trod_slice hu hx with ⟨rfl, rfl⟩ | ⟨a, len, cap, elems, rest, n', rfl, rfl, rfl, _, hlc, hcm, hel, hget, _, _⟩
      · exact one ⟨[.sl ⟨P.cellsOf e, P.bytesOf e⟩ []], ⟨[], rfl, by simp⟩, by simp [sz1], rfl, fun j x hj => by cases j <;> simp at hj; subst hj; exact .nil (Nat.zero_le _) (fun _ => rfl)⟩
      · have hrow : ∀ i, i < len → ∃ cs', w.cells? 0 (a.add (i * P.cellsOf e)) (P.cellsOf e) = some cs' ∧ Rep1 P w X e u cs' := by
          intro i hi
          have hg := hget i hi
          obtain ⟨y, hy⟩ : ∃ y, elems[i]? = some y := ⟨_, List.getElem?_eq_getElem (by omega)⟩
          rw [hy, Option.bind_eq_some_iff] at hg
          obtain ⟨cs', h1, h2⟩ := hg
          refine ⟨cs', h1, (ih e u hu' n' cs' y h2 fun k hk => hw k ?_).1⟩
          simp only [DataW.weights, hu]
          refine List.mem_cons_of_mem _ (List.mem_append_left _ (weightsAll_mem hk ?_))
          exact List.mem_map.2 ⟨y, List.mem_of_getElem? hy, rfl⟩
        have hex : ∀ i, ∃ xs : List D, i < len → WT u xs ∧ xs.length = P.cellsOf e ∧ ∀ j d, xs[j]? = some d → ∃ v, w.cell? (a.add (i * P.cellsOf e + j)) = some v ∧ RepD w X d v := by
          intro i
          by_cases hi : i < len
          · obtain ⟨cs', h1, xs, k1, k2, k3, k4⟩ := hrow i hi
            obtain ⟨c1, c2⟩ := cells_get h1
            refine ⟨xs, fun _ => ⟨k1, k2, fun j d hj => ?_⟩⟩
            have hlt := (List.getElem?_eq_some_iff.1 hj).1
            have := c2 j (by omega)
            rw [addr_add] at this
            exact ⟨_, this, k4 j d hj⟩
          · exact ⟨[], fun h => absurd h hi⟩
        let rows : List (List D) := (List.range len).map fun i => (hex i).choose
        have hrows : ∀ i r, rows[i]? = some r → i < len ∧ r = (hex i).choose := by
          intro i r hr
          simp only [rows, List.getElem?_map, Option.map_eq_some_iff] at hr
          obtain ⟨i', hi', rfl⟩ := hr
          have hlt := (List.getElem?_eq_some_iff.1 hi').1
          simp only [List.length_range] at hlt
          rw [List.getElem?_range hlt] at hi'
          cases hi'
          exact ⟨hlt, rfl⟩
        have hlen : rows.length = len := by simp [rows]
        have hbytes : len * P.bytesOf e ≤ room := by
          have := hw ((elems.length + rest.length) * P.bytesOf e) (by simp [DataW.weights, hu])
          have h2 : len * P.bytesOf e ≤ (elems.length + rest.length) * P.bytesOf e := Nat.mul_le_mul_right _ (by omega)
          simp only [reachBytes] at this
          simp only [room]
          omega
        refine one ⟨[.sl ⟨P.cellsOf e, P.bytesOf e⟩ rows], ⟨rows, rfl, fun r hr => ?_⟩, by simp [sz1], rfl, fun j x hj => ?_⟩
        · obtain ⟨i, hi⟩ := List.mem_iff_getElem?.1 hr
          obtain ⟨hlt, rfl⟩ := hrows i r hi
          exact ((hex i).choose_spec hlt).1
        · cases j with
          | succ j => simp at hj
          | zero =>
            simp only [List.getElem?_cons_zero, Option.some.injEq] at hj
            subst hj
            simp only [List.getD_eq_getElem?_getD, List.getElem?_cons_zero, Option.getD_some]
            have key : ∀ i r j d, rows[i]? = some r → r[j]? = some d → ∃ v, w.cell? (a.add (i * P.cellsOf e + j)) = some v ∧ RepD w X d v := by
              intro i r j d hi hj
              obtain ⟨hlt, rfl⟩ := hrows i r hi
              exact ((hex i).choose_spec hlt).2.2 j d hj
            rw [← hlen]
            refine .sl (fun i j => (w.cell? (a.add (i * P.cellsOf e + j))).getD undef) (by omega) hcm (by rw [hlen]; exact hbytes) (fun r hr => ?_) (fun i r j d hi hj => ?_) (fun i r j d hi hj => ?_)
            · obtain ⟨i, hi⟩ := List.mem_iff_getElem?.1 hr
              obtain ⟨hlt, rfl⟩ := hrows i r hi
              exact ((hex i).choose_spec hlt).2.1
            · obtain ⟨v, h1, h2⟩ := key i r j d hi hj
              exact ⟨by rw [h1]; rfl, hX _⟩
            · obtain ⟨v, h1, h2⟩ := key i r j d hi hj
              rw [h1]; exact h2
    · rename_i fs hu
      split at h
      · rename_i ts en hfs
        split at h
        · rename_i hen
          cases h
          obtain ⟨xs, n', rfl, rfl, hl, hxs, hget⟩ := DataW.trod_struct hu hx
          obtain ⟨ys, h1, h2, h3⟩ := fields_rep (w := w) (X := X) (cs := cs) fs.toList 0 ts en hfs (by omega) (fun f hf ty hty => by
            obtain ⟨i, hi⟩ := List.mem_iff_getElem?.1 hf
            have hi' : fs[i]? = some f := by simpa using hi
            have hlt : i < fs.size := (Array.getElem?_eq_some_iff.1 hi').1
            have hg := hget i f hi'
            obtain ⟨y, hy⟩ : ∃ y, xs[i]? = some y := ⟨_, List.getElem?_eq_getElem (by omega)⟩
            rw [hy] at hg
            refine (ih f.type ty hty n' _ y hg fun k hk => hw k ?_).1
            simp only [DataW.weights, hu]
            exact weightsEach_get i f y hi hy hk)
          exact one ⟨ys, h1, by omega, by omega, fun j x hj => by simpa using h3 j x hj⟩
        · cases h
      · cases h
    · rename_i k e hu
      split at h
      · rename_i u hu'
        split at h
        · rename_i hc
          cases h
          obtain ⟨xs, n', rfl, rfl, hl, hp⟩ := trod_array hu hx
          obtain ⟨r1, r2⟩ := mapM_range hp
          obtain ⟨ys, h1, h2, h3⟩ := array_rep (P := P) (w := w) (X := X) (cs := cs) (e := e) (u := u) k (by omega) (fun i hi => by
            have hy : xs[i]? = some xs[i] := List.getElem?_eq_getElem (by omega)
            refine (ih e u hu' n' _ _ (r2 i _ hy) fun q hq => hw q ?_).1
            simp only [DataW.weights, hu]
            exact weightsAll_mem hq (List.mem_map.2 ⟨_, List.mem_of_getElem? hy, rfl⟩))
          exact one ⟨ys, h1, by omega, by omega, h3⟩
        · cases h
      · cases h
    · cases h

end Go.Proofs.YtckglkbbdbmdkaaDoor.Nx
