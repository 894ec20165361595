/- What the abstract machine does, the model does: values that are built; slices. -/
import Derived.Test.YtckglkbbdbmdkaaDoorNxSound
namespace Go.Proofs.YtckglkbbdbmdkaaDoor.Nx
set_option linter.unusedSimpArgs false
set_option linter.unusedVariables false
set_option linter.unnecessarySimpa false
open Go

variable {P : Program} {w w' : World} {M : Nat → Prop} {ρ ρ' : Phys} {h h' : Heap}

/-- Cells in an array, and what the abstract machine holds for them. -/
def CR (w : World) (M : Nat → Prop) (ρ : Phys) (h : Heap) (cells : Array Value) (cs : List A) : Prop :=
  cells.size = cs.length ∧ (∀ u ∈ cells.toList, u.oneCell' = true) ∧ ∀ (j : Nat) (y : A), cs[j]? = some y → RepA w M ρ h y (cells.getD j undef)

theorem foldl_seg (v : List Value) : ∀ (k off : Nat) (cells : Array Value), off + k + v.length ≤ cells.size →
    ((v.zipIdx k).foldl (fun cs (p : Value × Nat) => cs.setIfInBounds (off + p.2) p.1) cells) = (cells.toList.take (off + k) ++ v ++ cells.toList.drop (off + k + v.length)).toArray := by
  induction v with
  | nil => intro k off cells hl; simp
  | cons c v ih =>
    intro k off cells hl
    simp only [List.zipIdx_cons, List.foldl_cons]
    rw [ih (k + 1) off _ (by simp at hl ⊢; omega)]
    have e := list_seg_step cells.toList (off + k) c v (by simp at hl ⊢; omega)
    simpa [Array.toList_setIfInBounds, Nat.add_assoc] using e

theorem fill_one {place : Nat → Option (Nat × Nat)} {cells : Array Value} {i off n : Nat} {v : Value} {rest : List (Nat × Value)} (hp : place i = some (off, n)) (hn : v.cells.size = n) (hl : off + n ≤ cells.size) :
    Instr.fill place cells ((i, v) :: rest) = Instr.fill place (cells.toList.take off ++ v.cells.toList ++ cells.toList.drop (off + v.cells.toList.length)).toArray rest := by
  have hf := foldl_seg v.cells.toList 0 off cells (by simp; omega)
  simp only [Nat.add_zero] at hf
  have hz : v.cells.zipIdx.foldl (fun cs (p : Value × Nat) => cs.setIfInBounds (off + p.2) p.1) cells = (v.cells.toList.zipIdx).foldl (fun cs (p : Value × Nat) => cs.setIfInBounds (off + p.2) p.1) cells := by
    rw [← Array.foldl_toList, Array.toList_zipIdx]
  simp only [Instr.fill, hp]
  rw [if_neg (by simp; omega)]
  have : v.cells.zipIdx.foldl (fun cs x => match x with | (c, j) => cs.setIfInBounds (off + j) c) cells = _ := hz.trans hf
  rw [this]

theorem CR.splice {cells : Array Value} {cs new : List A} {off : Nat} {v : Array Value} (hc : CR w M ρ h cells cs) (hv : CR w M ρ h v new) (hl : off + new.length ≤ cs.length) :
    CR w M ρ h (cells.toList.take off ++ v.toList ++ cells.toList.drop (off + v.toList.length)).toArray (Nx.splice cs off new) := by
  obtain ⟨c1, c2, c3⟩ := hc
  obtain ⟨v1, v2, v3⟩ := hv
  refine ⟨by rw [splice_length hl]; simp; omega, fun u hu => ?_, fun j y hj => ?_⟩
  · simp at hu
    rcases hu with hu | hu | hu
    · exact c2 u (List.mem_of_mem_take hu)
    · exact v2 u (by simpa using hu)
    · exact c2 u (List.mem_of_mem_drop hu)
  · have hseg := seg_get (cur := cells) (new := v) (o := off) (j := j) (by omega)
    rw [Array.getD_eq_getD_getElem?, hseg]
    rcases splice_get hl hj with ⟨k1, k2, k3⟩ | ⟨k1, k2⟩
    · rw [if_pos (by omega)]
      have := v3 _ y k3
      rwa [Array.getD_eq_getD_getElem?] at this
    · rw [if_neg (by omega)]
      have := c3 _ y k2
      rwa [Array.getD_eq_getD_getElem?] at this

theorem RepA.cr {x : A} {v : Value} (hx : RepA w M ρ h x v) (h1 : x.okCells = true) : CR w M ρ h v.cells x.cells := hx.ok h1

theorem fill_rep {place : Nat → Option (Nat × Nat)} : ∀ (items : List (Nat × Nat × Nat × A × Value)) (cells : Array Value) (cs : List A) {K : List A → Prop},
    (∀ it ∈ items, place it.1 = some (it.2.1, it.2.2.1) ∧ RepA w M ρ h it.2.2.2.1 it.2.2.2.2) → CR w M ρ h cells cs →
    fillTo cs (items.map fun it => (it.2.1, it.2.2.1, it.2.2.2.1)) K → ∃ cells' cs', Instr.fill place cells (items.map fun it => (it.1, it.2.2.2.2)) = some cells' ∧ CR w M ρ h cells' cs' ∧ K cs'
  | [], cells, cs, K, _, hc, hK => ⟨cells, cs, rfl, hc, hK⟩
  | (i, off, n, x, v) :: items, cells, cs, K, hi, hc, hK => by
    obtain ⟨k1, k2, k3, k4⟩ := hK
    obtain ⟨hp, hx⟩ := hi _ (List.mem_cons_self ..)
    dsimp only at hp hx k1 k2 k3 k4
    have hv := hx.cr k1
    have hn : v.cells.size = n := by rw [hv.1, k2]
    have hc' := hc.splice hv (by omega : off + x.cells.length ≤ cs.length)
    obtain ⟨cells', cs', h1, h2, h3⟩ := fill_rep items _ _ (fun it hit => hi it (List.mem_cons_of_mem _ hit)) hc' k4
    refine ⟨cells', cs', ?_, h2, h3⟩
    simp only [List.map_cons]
    rw [fill_one hp hn (by rw [hc.1]; omega)]
    exact h1

/-- The rows of a new slice's array. -/
def RR (w : World) (M : Nat → Prop) (ρ : Phys) (h : Heap) (sz : Nat) (cells : Array Value) (rows : List (List A)) : Prop :=
  cells.size = rows.length * sz ∧ (∀ r ∈ rows, r.length = sz) ∧ (∀ u ∈ cells.toList, u.oneCell' = true) ∧
    ∀ (i : Nat) (r : List A) (j : Nat) (y : A), rows[i]? = some r → r[j]? = some y → RepA w M ρ h y (cells.getD (i * sz + j) undef)

theorem RR.lt {sz : Nat} {cells : Array Value} {rows : List (List A)} (hR : RR w M ρ h sz cells rows) {i j : Nat} {r : List A} {y : A} (hi : rows[i]? = some r) (hj : r[j]? = some y) : i * sz + j < cells.size := by
  have h1 : i < rows.length := (List.getElem?_eq_some_iff.1 hi).1
  have h2 : j < r.length := (List.getElem?_eq_some_iff.1 hj).1
  rw [hR.2.1 r (List.mem_of_getElem? hi)] at h2
  have : (i + 1) * sz ≤ rows.length * sz := Nat.mul_le_mul_right _ h1
  rw [Nat.add_mul] at this
  rw [hR.1]; omega

theorem RR.get {sz : Nat} {cells : Array Value} {rows : List (List A)} (hR : RR w M ρ h sz cells rows) {i j : Nat} {r : List A} {y : A} (hi : rows[i]? = some r) (hj : r[j]? = some y) :
    ∃ v, cells[i * sz + j]? = some v ∧ v.oneCell' = true ∧ RepA w M ρ h y v := by
  have hlt := hR.lt hi hj
  have hs := getD_some hlt
  exact ⟨_, hs, hR.2.2.1 _ (List.mem_of_getElem? (i := i * sz + j) (by simpa using hs)), hR.2.2.2 i r j y hi hj⟩

theorem RR.set {sz : Nat} {cells : Array Value} {rows : List (List A)} {i : Nat} {new : List A} {v : Array Value} (hR : RR w M ρ h sz cells rows) (hv : CR w M ρ h v new) (hn : new.length = sz) (hi : i < rows.length) :
    RR w M ρ h sz (cells.toList.take (i * sz) ++ v.toList ++ cells.toList.drop (i * sz + v.toList.length)).toArray (rows.set i new) := by
  obtain ⟨r1, r2, r3, r4⟩ := hR
  obtain ⟨v1, v2, v3⟩ := hv
  have hin : i * sz + sz ≤ cells.size := by
    have : (i + 1) * sz ≤ rows.length * sz := Nat.mul_le_mul_right _ hi
    rw [Nat.add_mul] at this; omega
  refine ⟨by simp; omega, fun r hr => ?_, fun u hu => ?_, fun i' r j y hi' hj => ?_⟩
  · rcases List.mem_or_eq_of_mem_set hr with hr | rfl
    · exact r2 r hr
    · exact hn
  · simp at hu
    rcases hu with hu | hu | hu
    · exact r3 u (List.mem_of_mem_take hu)
    · exact v2 u (by simpa using hu)
    · exact r3 u (List.mem_of_mem_drop hu)
  · have hseg := seg_get (cur := cells) (new := v) (o := i * sz) (j := i' * sz + j) (by omega)
    rw [Array.getD_eq_getD_getElem?, hseg]
    rcases get_set hi' with ⟨rfl, rfl⟩ | ⟨hne, hi'⟩
    · have hjl : j < r.length := (List.getElem?_eq_some_iff.1 hj).1
      rw [if_pos (by omega)]
      have := v3 j y hj
      rw [Array.getD_eq_getD_getElem?] at this
      have e : i' * sz + j - i' * sz = j := by omega
      rw [e]; exact this
    · have hjl : j < sz := by have := (List.getElem?_eq_some_iff.1 hj).1; rw [r2 r (List.mem_of_getElem? hi')] at this; exact this
      rw [if_neg ?_]
      · have := r4 i' r j y hi' hj
        rwa [Array.getD_eq_getD_getElem?] at this
      · rintro ⟨q1, q2⟩
        have hq : i' * sz + j = i * sz + (i' * sz + j - i * sz) := by omega
        exact hne (index_pair hjl (by omega) hq).1

theorem rows_rep {sz : Nat} : ∀ (items : List (Nat × A × Value)) (cells : Array Value) (rows : List (List A)) {K : List (List A) → Prop},
    (∀ it ∈ items, RepA w M ρ h it.2.1 it.2.2) → RR w M ρ h sz cells rows →
    rowsTo sz rows (items.map fun it => (it.1, it.2.1)) K → ∃ cells' rows', Instr.fill (fun i => some (i * sz, sz)) cells (items.map fun it => (it.1, it.2.2)) = some cells' ∧ RR w M ρ h sz cells' rows' ∧ rows'.length = rows.length ∧ K rows'
  | [], cells, rows, K, _, hc, hK => ⟨cells, rows, rfl, hc, rfl, hK⟩
  | (i, x, v) :: items, cells, rows, K, hi, hc, hK => by
    obtain ⟨k1, k2, k3, k4⟩ := hK
    have hx := hi _ (List.mem_cons_self ..)
    dsimp only at hx k1 k2 k3 k4
    have hv := hx.cr k1
    have hn : v.cells.size = sz := by rw [hv.1, k2]
    have hin : i * sz + sz ≤ cells.size := by
      have : (i + 1) * sz ≤ rows.length * sz := Nat.mul_le_mul_right _ k3
      rw [Nat.add_mul] at this; rw [hc.1]; omega
    obtain ⟨cells', rows', h1, h2, h3, h4⟩ := rows_rep items _ _ (fun it hit => hi it (List.mem_cons_of_mem _ hit)) (hc.set hv k2 k3) k4
    refine ⟨cells', rows', ?_, h2, by simpa using h3, h4⟩
    simp only [List.map_cons]
    rw [fill_one (n := sz) rfl hn (by omega)]
    exact h1

/-- A new own block with the rows of an array. -/
theorem SimH.newRows (S : SimH w M ρ h) (bnd : ∀ b, M b → b < w.heap.size) {e : Elt} {rows : List (List A)} {cells : Array Value} {pl : Option Nat} {id : Nat} {h1 : Heap} {ρ1 : Phys} (t : TypeId) (n : NewAt h ρ (.cells e rows) (some (w.heap.size, cells.size)) pl id h1 ρ1) (q1 : 0 < e.sz)
    (q2 : rows.length * e.bytes ≤ room) (q3 : rows.length ≤ maxLen) (hR : RR w M ρ h e.sz cells rows) : SimH (w.alloc (.cells cells t)) M ρ1 h1 := by
  refine S.newCells bnd t n q1 q2 q3 hR.2.1 (by rw [← hR.1]; exact Nat.le_refl _) (fun i r j x hi hj => ?_)
  obtain ⟨v, k1, k2, k3⟩ := hR.get hi hj
  exact ⟨v, k1, k2, k3⟩

/-- The array of a slice of zero values. -/
theorem zero_rows {sz n : Nat} {zv : Array Value} {z : List A} (hz : CR w M ρ h zv z) (hsz : z.length = sz) (h0 : 0 < sz) :
    RR w M ρ h sz ((Array.range (n * sz)).map (zv[· % zv.size]!)) (List.replicate n z) := by
  obtain ⟨z1, z2, z3⟩ := hz
  have hmod : ∀ k, k % zv.size < zv.size := fun k => Nat.mod_lt _ (by omega)
  refine ⟨by simp, fun r hr => by rw [(List.mem_replicate.1 hr).2, hsz], fun u hu => ?_, fun i r j y hi hj => ?_⟩
  · simp at hu
    obtain ⟨k, hk, rfl⟩ := hu
    rw [getElem!_pos zv _ (hmod k)]
    exact z2 _ (by simp)
  · have hi' : i < n := by have := (List.getElem?_eq_some_iff.1 hi).1; simpa using this
    have hr : r = z := by
      have := List.getElem?_replicate_of_lt (a := z) hi'
      rw [this] at hi; exact (Option.some.inj hi).symm
    subst hr
    have hj' : j < r.length := (List.getElem?_eq_some_iff.1 hj).1
    have hlt : i * sz + j < n * sz := by
      have : (i + 1) * sz ≤ n * sz := Nat.mul_le_mul_right _ hi'
      rw [Nat.add_mul] at this; omega
    have e : (i * sz + j) % zv.size = j := by
      rw [z1, hsz, Nat.mul_comm, Nat.mul_add_mod]
      exact Nat.mod_eq_of_lt (by omega)
    have := z3 j y hj
    have hjs : j < zv.size := by omega
    rw [Array.getD_eq_getD_getElem?] at this ⊢
    simp only [Array.getElem?_map, Array.getElem?_range, hlt, if_true, Option.map_some, e, Option.getD_some]
    rw [getElem!_pos zv j hjs]
    simpa [hjs] using this

theorem does_build {t : TypeId} {z : List A} {fs : List (Nat × Nat)} {items : List (Nat × Nat × Nat × A × Value)} {K : A → Heap → Prop} (S : SimH w M ρ h) (hz : zeroCells? P t = some z) (hf : fieldsOf P t = some fs)
    (hi : ∀ it ∈ items, fs[it.1]? = some (it.2.1, it.2.2.1) ∧ RepA w M ρ h it.2.2.2.1 it.2.2.2.2) (hK : fillTo z (items.map fun it => (it.2.1, it.2.2.1, it.2.2.2.1)) fun cs => K (.agg cs) h) :
    ∃ r h', K r h' ∧ Does P (do pure (.value (← Instr.build t (items.map fun it => (it.1, it.2.2.2.2)).toArray))) w M ρ h r h' := by
  obtain ⟨ti, zv, z1, z2, z3, z4, z5, z6⟩ := zero_rep (w := w) (M := M) (ρ := ρ) (h := h) hz
  have hc : CR w M ρ h zv.cells z := ⟨by omega, z5, z6⟩
  unfold fieldsOf at hf
  split at hf
  · rename_i fields hu
    obtain ⟨cells', cs', h1, h2, h3⟩ := fill_rep (place := fun i => fs[i]?) items _ _ hi hc hK
    refine ⟨_, _, h3, .pure (v := .agg cells') ?_ (.agg h2.1 h2.2.1 h2.2.2) S⟩
    have hb := run_build (P := P) w t (items.map fun it => (it.1, it.2.2.2.2)).toArray cells' (by simp only [Program.built, z1, hu, z2, hf]; simpa using h1)
    rw [Sem.run_bind, hb]; rfl
  · rename_i n et hu
    simp only [Option.map_eq_some_iff] at hf
    obtain ⟨ei, hei, rfl⟩ := hf
    obtain ⟨cells', cs', h1, h2, h3⟩ := fill_rep (place := fun i => some (i * ei.size, ei.size)) items _ _ (fun it hit => by
      obtain ⟨q1, q2⟩ := hi it hit
      refine ⟨?_, q2⟩
      rw [List.getElem?_map, Option.map_eq_some_iff] at q1
      obtain ⟨j, hj, q1⟩ := q1
      have hj' : j = it.1 := by
        rw [List.getElem?_range (by
          have := (List.getElem?_eq_some_iff.1 hj).1
          simpa using this)] at hj
        injection hj with hj
        exact hj.symm
      subst hj'
      rw [q1]) hc hK
    refine ⟨_, _, h3, .pure (v := .agg cells') ?_ (.agg h2.1 h2.2.1 h2.2.2) S⟩
    have hb := run_build (P := P) w t (items.map fun it => (it.1, it.2.2.2.2)).toArray cells' (by simp only [Program.built, z1, hu, z2, hei]; simpa using h1)
    rw [Sem.run_bind, hb]; rfl
  · cases hf

theorem does_bslice {t et : TypeId} {e : Elt} {z : List A} {len : Nat} {items : List (Nat × A × Value)} {pl : Option Nat} {K : A → Heap → Prop} (S : SimH w M ρ h) (bnd : ∀ b, M b → b < w.heap.size)
    (hu : P.underlying t = some (.slice et)) (he : elt? P et = some e) (hz : zeroCells? P et = some z) (hs : small e = true) (h24 : len * e.sz ≤ 2 ^ 24) (hroom : len * e.bytes ≤ room) (hmax : len ≤ maxLen)
    (hi : ∀ it ∈ items, RepA w M ρ h it.2.1 it.2.2) (hK : rowsTo e.sz (List.replicate len z) (items.map fun it => (it.1, it.2.1)) fun rows => place pl h (.cells e rows) fun id h1 => K (.ref id len 0 len true) h1) :
    ∃ r h', K r h' ∧ Does P (do pure (.value (← Instr.buildSlice t len (items.map fun it => (it.1, it.2.2)).toArray))) w M ρ h r h' := by
  obtain ⟨ti, zv, z1, z2, z3, z4, z5, z6⟩ := zero_rep (w := w) (M := M) (ρ := ρ) (h := h) hz
  obtain ⟨ti', hti, rfl⟩ := elt_some he
  rw [z1] at hti; cases hti
  obtain ⟨s1, s2⟩ := small_spec hs
  dsimp only at *
  have hc : CR w M ρ h zv.cells z := ⟨by omega, z5, z6⟩
  have hR := zero_rows (n := len) hc z4 s1
  obtain ⟨cells', rows', h1, h2, h3, h4⟩ := rows_rep items _ _ hi hR hK
  have h3' : rows'.length = len := by simpa using h3
  obtain ⟨id, h1', ρ1, n, hKr⟩ := place_new (ρ := ρ) h4 (some (w.heap.size, cells'.size))
  have S' := S.newRows (e := ⟨ti.size, ti.bytes⟩) bnd et n s1 (by rw [h3']; exact hroom) (by rw [h3']; exact hmax) h2
  refine ⟨_, _, hKr, .slice (some ⟨w.heap.size, 0, none⟩) len len, w.alloc (.cells cells' et), ρ1, .inl ?_, ?_, S', .newAlloc n S.len⟩
  · unfold Instr.buildSlice
    simp only [Sem.run_bind, run_underlying hu, Result.andThen_ok, run_sizeOf z1]
    rw [if_neg (by omega)]
    by_cases h0 : len * ti.size = 0
    · rw [if_pos h0]
      have e0 : Array.range (len * ti.size) = #[] := by rw [h0]; rfl
      rw [e0] at h1 ⊢
      simp only [Array.map_empty] at h1 ⊢
      simp [h1, newRow]
    · rw [if_neg h0]
      simp [zeroValue, typeInfo, z1, z2, h1, newRow]
  · have hm : len ≤ maxLen := hmax
    have := RepA.ref (w := w.alloc (.cells cells' et)) (M := M) (off := 0) (len := len) (o := 0) (cap := len) (full := true) n.heap (n.phys S.len) (by omega) (Nat.le_refl _) hm (.inr (by simp)) (by rw [h2.1, h3']; simp) (fun _ => by omega)
    rw [h3'] at this
    exact this

end Go.Proofs.YtckglkbbdbmdkaaDoor.Nx
