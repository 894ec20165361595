/- What the abstract machine does, the model does: append, copy, make. -/
import Derived.Test.YtckglkbbdbmdkaaDoorNxSound5
namespace Go.Proofs.YtckglkbbdbmdkaaDoor.Nx
set_option linter.unusedSimpArgs false
set_option linter.unusedVariables false
set_option linter.unnecessarySimpa false
open Go

variable {P : Program} {w w' : World} {M : Nat → Prop} {ρ ρ' : Phys} {h h' : Heap}

section
variable {t t' ty et : TypeId} {i : TypeInfo} {z : Value}

theorem run_app_room (ht : P.underlying t = some (.slice et)) (ht' : (∃ e2, P.underlying t' = some (.slice e2)) ∨ P.underlying t' = some .string) (hi : P.info? et = some i) {base : Option Addr} {n cap m : Nat} {x : Value} {news : Array Value}
    (hlen : (Builtin.lenOf x).run P w = .ok m w) (hfirst : (Builtin.firstCells i.size m x).run P w = .ok news w) (hroom : n + m ≤ cap)
    (hst : ∀ a, base = some a → (storeCells (a.add (n * i.size)) news.toList).run P w = .ok () w') (hst' : base = none → w' = w) :
    (Builtin.append_ #[t, t'] ty #[.slice base n cap, x]).run P w = .ok (.slice base (n + m) cap) w' := by
  rcases ht' with ⟨e2, ht'⟩ | ht'
  · cases base with
    | none => simp [Builtin.append_, run_underlying ht, run_underlying ht', sizeOf, typeInfo, hi, hlen, hroom, hfirst, hst' rfl]
    | some a => simp [Builtin.append_, run_underlying ht, run_underlying ht', sizeOf, typeInfo, hi, hlen, hroom, hfirst, hst a rfl]
  · cases base with
    | none => simp [Builtin.append_, run_underlying ht, run_underlying ht', sizeOf, typeInfo, hi, hlen, hroom, hfirst, hst' rfl]
    | some a => simp [Builtin.append_, run_underlying ht, run_underlying ht', sizeOf, typeInfo, hi, hlen, hroom, hfirst, hst a rfl]

theorem run_app_grow (ht : P.underlying t = some (.slice et)) (ht' : (∃ e2, P.underlying t' = some (.slice e2)) ∨ P.underlying t' = some .string) (hi : P.info? et = some i) (hz : i.zero = some z) {base : Option Addr} {n cap m : Nat} {x : Value} {olds news : Array Value}
    (hlen : (Builtin.lenOf x).run P w = .ok m w) (holds : (Builtin.firstCells i.size n (.slice base n cap)).run P w.drew = .ok olds w.drew) (hfirst : (Builtin.firstCells i.size m x).run P w.drew = .ok news w.drew) (hg : cap < n + m) (hm : n + m ≤ maxLen)
    (hb : (n + m) * i.bytes ≤ room) :
    (Builtin.append_ #[t, t'] ty #[.slice base n cap, x]).run P w = .ok (.slice (some ⟨w.heap.size, 0, none⟩) (n + m) (grownCap w (n + m) cap et))
      (w.drew.alloc (.cells (olds ++ news ++ Builtin.zeroCells z.cells (grownCap w (n + m) cap et - (n + m))) et)) := by
  have hn : ¬ (n + m ≤ cap) := by omega
  have h63 : ¬ (9223372036854775807 < ((n : Int) + (m : Int))) := by unfold maxLen at hm; omega
  have h48 : ¬ (281474976710656 < Builtin.nextslicecap (n + m) cap * i.bytes) := by
    have := growslice_fits (need := n + m) (old := cap) (bytes := i.bytes) hg (by unfold room at hb; exact hb)
    omega
  rcases ht' with ⟨e2, ht'⟩ | ht'
  · simp [Builtin.append_, run_underlying ht, run_underlying ht', sizeOf, typeInfo, zeroValue, hi, hz, hlen, hn, h63, h48, Question.forced, hfirst, holds, newRow, grownCap]
  · simp [Builtin.append_, run_underlying ht, run_underlying ht', sizeOf, typeInfo, zeroValue, hi, hz, hlen, hn, h63, h48, Question.forced, hfirst, holds, newRow, grownCap]
end

/-- What a block reads behind an append or a copy. -/
theorem app_cells {sz : Nat} {rows new : List (List A)} {cur : Array Value} {f : Nat → Value} {len : Nat} (hold : ∀ (i : Nat) (r : List A) (j : Nat) (x : A), rows[i]? = some r → r[j]? = some x → ∃ v, cur[i * sz + j]? = some v ∧ v.oneCell' = true ∧ RepA w M ρ h x v)
    (hrows : ∀ r ∈ rows, r.length = sz) (srows : ∀ r ∈ new, r.length = sz) (sone : ∀ k, k < new.length * sz → (f k).oneCell' = true)
    (srep : ∀ (i : Nat) (r : List A) (j : Nat) (y : A), new[i]? = some r → r[j]? = some y → RepA w M ρ h y (f (i * sz + j))) (hlen : len ≤ rows.length) {cells : Array Value}
    (h1 : ∀ k, k < len * sz → cells[k]? = cur[k]?) (h2 : ∀ k, k < new.length * sz → cells[len * sz + k]? = some (f k)) (h3 : ∀ k, (len + new.length) * sz ≤ k → k < rows.length * sz → cells[k]? = cur[k]?)
    {i : Nat} {r : List A} {j : Nat} {x : A} (hi : (rows.take len ++ new ++ rows.drop (len + new.length))[i]? = some r) (hj : r[j]? = some x) :
    ∃ v, cells[i * sz + j]? = some v ∧ v.oneCell' = true ∧ RepA w M ρ h x v := by
  have ltl : (rows.take len).length = len := by simp; omega
  rw [List.append_assoc, List.getElem?_append, ltl] at hi
  split at hi
  · rename_i hlt
    rw [List.getElem?_take_of_lt hlt] at hi
    obtain ⟨u, k1, k2, k3⟩ := hold i r j x hi hj
    have hjl : j < sz := by have := (List.getElem?_eq_some_iff.1 hj).1; rwa [hrows r (List.mem_of_getElem? hi)] at this
    have hk : i * sz + j < len * sz := by
      have : (i + 1) * sz ≤ len * sz := Nat.mul_le_mul_right _ hlt
      rw [Nat.add_mul] at this; omega
    exact ⟨u, by rw [h1 _ hk]; exact k1, k2, k3⟩
  · rename_i hge
    rw [List.getElem?_append] at hi
    split at hi
    · rename_i hlt
      have hjl : j < sz := by have := (List.getElem?_eq_some_iff.1 hj).1; rwa [srows r (List.mem_of_getElem? hi)] at this
      have hk : (i - len) * sz + j < new.length * sz := by
        have : (i - len + 1) * sz ≤ new.length * sz := Nat.mul_le_mul_right _ hlt
        rw [Nat.add_mul] at this; omega
      have e : i * sz + j = len * sz + ((i - len) * sz + j) := by
        rw [← Nat.add_assoc, ← Nat.add_mul]; congr 2; omega
      rw [e]
      exact ⟨_, h2 _ hk, sone _ hk, srep _ r j x hi hj⟩
    · rename_i hge2
      rw [List.getElem?_drop] at hi
      have ei : len + new.length + (i - len - new.length) = i := by omega
      rw [ei] at hi
      have hjl : j < sz := by have := (List.getElem?_eq_some_iff.1 hj).1; rwa [hrows r (List.mem_of_getElem? hi)] at this
      obtain ⟨u, k1, k2, k3⟩ := hold i r j x hi hj
      have hil : i < rows.length := (List.getElem?_eq_some_iff.1 hi).1
      refine ⟨u, ?_, k2, k3⟩
      rw [h3, k1]
      · have : (len + new.length) * sz ≤ i * sz := Nat.mul_le_mul_right _ (by omega)
        omega
      · have : (i + 1) * sz ≤ rows.length * sz := Nat.mul_le_mul_right _ hil
        rw [Nat.add_mul] at this; omega

theorem seg_parts {cur : Array Value} {new : List Value} {o : Nat} (hl : o + new.length ≤ cur.size) :
    (cur.toList.take o ++ new ++ cur.toList.drop (o + new.length)).toArray.size = cur.size ∧
    (∀ k, k < o → (cur.toList.take o ++ new ++ cur.toList.drop (o + new.length)).toArray[k]? = cur[k]?) ∧
    (∀ k, k < new.length → (cur.toList.take o ++ new ++ cur.toList.drop (o + new.length)).toArray[o + k]? = new[k]?) ∧
    (∀ k, o + new.length ≤ k → (cur.toList.take o ++ new ++ cur.toList.drop (o + new.length)).toArray[k]? = cur[k]?) := by
  have hs := fun j => seg_get (cur := cur) (new := new.toArray) (o := o) (j := j) (by simpa using hl)
  simp only [List.size_toArray] at hs
  refine ⟨by simp; omega, fun k hk => ?_, fun k hk => ?_, fun k hk => ?_⟩
  · have := hs k; rw [if_neg (by omega)] at this; exact this
  · have := hs (o + k); rw [if_pos (by omega), Nat.add_sub_cancel_left] at this; simpa using this
  · have := hs k; rw [if_neg (by omega)] at this; exact this

theorem range_get {n : Nat} {f : Nat → Value} {k : Nat} (hk : k < n) : ((List.range n).map f)[k]? = some (f k) := by simp [hk]

/-- An append to a slice that holds the block's first rows. -/
theorem does_append {t t' ty et : TypeId} {ti : TypeInfo} {zv : Value} {e : Elt} {rows new : List (List A)} {id N len : Nat} {full : Bool} {v x : Value} {f : Nat → Value} (S : SimH w M ρ h) (bnd : ∀ b, M b → b < w.heap.size)
    (ht : P.underlying t = some (.slice et)) (ht' : (∃ e2, P.underlying t' = some (.slice e2)) ∨ P.underlying t' = some .string) (hti : P.info? et = some ti) (hz : ti.zero = some zv) (hzv : zv.cells.size = ti.size) (he : e.sz = ti.size) (heb : e.bytes = ti.bytes)
    (hid : h[id]? = some (.cells e rows)) (hN : N = rows.length) (hx : RepA w M ρ h (.ref id N 0 len full) v) (src : Src P w M ρ h e.sz new x f) (hroom : (len + new.length) * e.bytes ≤ room) (hmax : len + new.length ≤ maxLen)
    (hcase : len = N ∨ (full = true ∧ len + new.length ≤ N)) :
    Does P (do pure (.value (← Builtin.append_ #[t, t'] ty #[v, x]))) w M ρ h (.ref id (rows.take len ++ new ++ rows.drop (len + new.length)).length 0 (len + new.length) true) (h.set id (.cells e (rows.take len ++ new ++ rows.drop (len + new.length)))) := by
  have hbs := S.cells id e rows hid
  obtain ⟨g1, g2, g3, g4, g5⟩ := hbs
  have hidl : id < h.length := (List.getElem?_eq_some_iff.1 hid).1
  have hRlen : len ≤ rows.length → (rows.take len ++ new ++ rows.drop (len + new.length)).length = max rows.length (len + new.length) := by intro hl; simp; omega
  have hRrows : ∀ r ∈ rows.take len ++ new ++ rows.drop (len + new.length), r.length = e.sz := by
    intro r hr
    simp only [List.mem_append] at hr
    rcases hr with (hr | hr) | hr
    · exact g4 r (List.mem_of_mem_take hr)
    · exact src.rows r hr
    · exact g4 r (List.mem_of_mem_drop hr)
  have growTo : len = N → ∀ (base : Option Addr) (cap : Nat) (olds : Array Value), v = .slice base len cap → cap < len + new.length → olds.size = len * e.sz →
      (∀ w', w'.heap = w.heap → (Builtin.firstCells ti.size len (.slice base len cap)).run P w' = .ok olds w') →
      (∀ (i : Nat) (r : List A) (j : Nat) (x : A), rows[i]? = some r → r[j]? = some x → ∃ v, olds[i * e.sz + j]? = some v ∧ v.oneCell' = true ∧ RepA w M ρ h x v) → len ≤ cap →
      Does P (do pure (.value (← Builtin.append_ #[t, t'] ty #[v, x]))) w M ρ h (.ref id (rows.take len ++ new ++ rows.drop (len + new.length)).length 0 (len + new.length) true) (h.set id (.cells e (rows.take len ++ new ++ rows.drop (len + new.length)))) := by
    intro hlN base cap olds hv hg holds hfo hcells hlc
    subst hv
    have hrun := run_app_grow (P := P) (w := w) (ty := ty) (x := x) (news := ((List.range (new.length * e.sz)).map f).toArray) ht ht' hti hz (src.len w) (hfo _ rfl) (by rw [← he]; exact src.first _ _ rfl (Nat.le_refl _)) hg hmax (by rw [← heb]; exact hroom)
    have hlr : len = rows.length := by omega
    have hlen' := hRlen (by omega)
    have hcell : ∀ (extra : Array Value) (i : Nat) (r : List A) (j : Nat) (y : A), (rows.take len ++ new ++ rows.drop (len + new.length))[i]? = some r → r[j]? = some y → ∃ v, (olds ++ ((List.range (new.length * e.sz)).map f).toArray ++ extra)[i * e.sz + j]? = some v ∧ v.oneCell' = true ∧ RepA w M ρ h y v := by
      intro extra i r j y hi hj
      refine app_cells (cur := olds) (len := len) hcells g4 src.rows src.one src.rep (by omega) (fun k hk => ?_) (fun k hk => ?_) (fun k hk hk' => ?_) hi hj
      · rw [Array.getElem?_append_left (by simp; omega), Array.getElem?_append_left (by omega)]
      · rw [Array.getElem?_append_left (by simp; omega), Array.getElem?_append_right (by omega), holds, Nat.add_sub_cancel_left]
        simpa using range_get hk
      · have : rows.length * e.sz ≤ (len + new.length) * e.sz := Nat.mul_le_mul_right _ (by omega)
        omega
    have S1 : SimH w.drew M ρ h := S.drew
    have hcell' := fun extra i r j y hi hj => hcell extra i r j y hi hj
    have S2 := S1.grow (e := e) (rows' := rows.take len ++ new ++ rows.drop (len + new.length)) (cs := olds ++ ((List.range (new.length * e.sz)).map f).toArray ++ Builtin.zeroCells zv.cells (grownCap w (len + new.length) cap et - (len + new.length))) bnd et hid
      (by rw [hlen']; omega) (by rw [hlen', Nat.max_eq_right (by omega)]; exact hroom) (by rw [hlen', Nat.max_eq_right (by omega)]; exact hmax) hRrows
      (by
        rw [hlen', Nat.max_eq_right (by omega)]
        simp only [Array.size_append, List.size_toArray, List.length_map, List.length_range, holds, Nat.add_mul]
        omega)
      (fun i r j y hi hj => by
        obtain ⟨u, q1, q2, q3⟩ := hcell' _ i r j y hi hj
        exact ⟨u, q1, q2, (Evo.drew (h := h) (ρ := ρ) (w := w) _ (Nat.le_refl _)).rep' q3⟩)
    refine ⟨_, _, _, .inl (by rw [Sem.run_bind, hrun]; rfl), ?_, S2, (Evo.drew _ (Nat.le_refl _)).trans (.grow _ _ hid (by rw [hlen']; omega))⟩
    have hgc := grownCap_ge w (len + new.length) cap et
    have hgm := grownCap_le_maxLen w (len + new.length) cap et hmax
    refine .ref (List.getElem?_set_self hidl) (List.getElem?_set_self (by rw [S.len]; exact hidl)) (by rw [hlen']; omega) hgc hgm (.inr (by simp)) ?_ (fun _ => by rw [hlen']; omega)
    simp only [Array.size_append, List.size_toArray, List.length_map, List.length_range, holds, size_zeroCells, hzv, ← he, ← Nat.add_mul]
    exact Nat.mul_le_mul_right _ (by omega)
  have same : new = [] → (rows.take len ++ new ++ rows.drop (len + new.length)) = rows ∧ h.set id (.cells e rows) = h := by
    intro hn
    subst hn
    refine ⟨by simp, ?_⟩
    obtain ⟨hlt, heq⟩ := List.getElem?_eq_some_iff.1 hid
    rw [← heq]; exact List.set_getElem_self hlt
  rcases ref_inv hx hid hN with ⟨rfl, rfl, _, rfl, hp⟩ | ⟨b, p, o, cap, hp, rfl, hlen, hcap, hm, ho, hphys, hfull⟩
  · by_cases hn : new = []
    · obtain ⟨e1, e2⟩ := same hn
      rw [e1, e2]
      subst hn
      have hrun := run_app_room (P := P) (w := w) (w' := w) (ty := ty) (x := x) (n := 0) (cap := 0) (m := 0) (base := none) (news := #[]) ht ht' hti (src.len w) (by rw [← he]; have := src.first w 0 rfl (by simp); simpa using this) (by simp) (fun _ h => by cases h) (fun _ => rfl)
      exact .pure (v := .slice none 0 0) (by rw [Sem.run_bind, hrun]; rfl) (.ref0 hid hp) S
    · have hnl : 0 < new.length := List.length_pos_iff.2 hn
      exact growTo hN.symm none 0 #[] rfl (by omega) (by simp) (fun w' _ => by simp [Builtin.firstCells]) (fun i r j x hi => by simp at hi) (Nat.le_refl _)
  · by_cases hfit : len + new.length ≤ cap
    · by_cases hn : new = []
      · obtain ⟨e1, e2⟩ := same hn
        rw [e1, e2]
        subst hn
        have hrun := run_app_room (P := P) (w := w) (w' := w) (ty := ty) (x := x) (n := len) (cap := cap) (m := 0) (base := some ⟨b, o, none⟩) (news := #[]) ht ht' hti (src.len w) (by rw [← he]; have := src.first w 0 rfl (by simp); simpa using this) (by simpa using hfit) (fun a h => by simp [storeCells]) (fun h => by cases h)
        refine .pure (v := .slice (some ⟨b, o, none⟩) len cap) (by rw [Sem.run_bind, hrun]; rfl) ?_ S
        simp only [List.length_nil, Nat.add_zero]
        refine .ref hid hp hlen hcap hm ho hphys (fun _ => ?_)
        rcases hcase with hc | hc
        · omega
        · exact hfull hc.1
      · have hnl : 0 < new.length := List.length_pos_iff.2 hn
        have ho' : o = 0 := by have := ho.resolve_left (by omega); simpa using this
        subst ho'
        rcases g5 with ⟨g5, _⟩ | ⟨b', p', cs, tb, g5, g6, g7, g8, g9, g10⟩
        · rw [hp] at g5; cases g5
        rw [hp] at g5; cases g5
        have hfitp : (len + new.length) * e.sz ≤ cs.size := by
          rw [g8]
          refine Nat.le_trans (Nat.mul_le_mul_right _ ?_) hphys
          omega
        have hfitp' : len * e.sz + new.length * e.sz ≤ cs.size := by rw [← Nat.add_mul]; exact hfitp
        have hst := run_storeCells_at P b (len * e.sz) tb ((List.range (new.length * e.sz)).map f) 0 cs w g7 (by simp; omega) (fun u hu => by
          obtain ⟨k, hk, rfl⟩ := List.mem_map.1 hu
          exact src.one k (by simpa using hk))
        rw [Nat.add_zero] at hst
        obtain ⟨q1, q2, q3, q4⟩ := seg_parts (cur := cs) (new := (List.range (new.length * e.sz)).map f) (o := len * e.sz) (by simp; omega)
        obtain ⟨hd, hh⟩ := setRow_differs (cs := (cs.toList.take (len * e.sz) ++ (List.range (new.length * e.sz)).map f ++ cs.toList.drop (len * e.sz + ((List.range (new.length * e.sz)).map f).length)).toArray) g7
        have hrun := run_app_room (P := P) (w := w) (ty := ty) (x := x) (n := len) (cap := cap) (m := new.length) (base := some ⟨b, 0, none⟩) (news := ((List.range (new.length * e.sz)).map f).toArray) ht ht' hti (src.len w)
          (by rw [← he]; exact src.first w _ rfl (Nat.le_refl _)) hfit (fun a h => by cases h; rw [add_off, Nat.zero_add, ← he]; exact hst) (fun h => by cases h)
        have hlr : len ≤ rows.length := by omega
        have hlen' := hRlen hlr
        have hmaxR : max rows.length (len + new.length) * e.bytes ≤ room ∧ max rows.length (len + new.length) ≤ maxLen := by
          rcases Nat.le_total rows.length (len + new.length) with h1 | h1
          · rw [Nat.max_eq_right h1]; exact ⟨hroom, hmax⟩
          · rw [Nat.max_eq_left h1]; exact ⟨g2, g3⟩
        have hRp : max rows.length (len + new.length) * e.sz ≤ p := by
          rcases Nat.le_total rows.length (len + new.length) with h1 | h1
          · rw [Nat.max_eq_right h1, ← g8]; exact hfitp
          · rw [Nat.max_eq_left h1]; exact g9
        refine ⟨_, _, ρ, .inl (by rw [Sem.run_bind, hrun]; rfl), ?_, S.put hid hp hd (by rw [hlen']; omega) hh (by rw [q1]; exact g8) (by rw [hlen']; exact hmaxR.1) (by rw [hlen']; exact hmaxR.2) hRrows (by rw [hlen']; exact hRp) (fun i r j y hi hj => ?_), .put hid hp hd (by rw [hlen']; omega)⟩
        · refine .ref (List.getElem?_set_self hidl) hp (by rw [hlen']; omega) hfit hm (.inr (by simp)) (by simpa using hphys) (fun _ => ?_)
          rw [hlen']
          rcases hcase with hc | hc
          · omega
          · have := hfull hc.1; omega
        · refine app_cells (cur := cs) (len := len) g10 g4 src.rows src.one src.rep hlr (fun k hk => q2 k hk) (fun k hk => ?_) (fun k hk _ => q4 k (by simp only [List.length_map, List.length_range]; rw [← Nat.add_mul]; exact hk)) hi hj
          rw [q3 k (by simpa using hk)]
          exact range_get hk
    · have hlN : len = N := by
        rcases hcase with hc | hc
        · exact hc
        · have := hfull hc.1; omega
      obtain ⟨f0, src0⟩ := src_ok (P := P) (e := e) (a := .ref id N 0 len full) S g1 hx (new := (rows.drop 0).take len) (by simp only [srcRows, hid]; exact if_pos ⟨trivial, hN⟩)
      have hln : ((rows.drop 0).take len).length = len := by simp; omega
      refine growTo hlN (some ⟨b, o, none⟩) cap ((List.range (len * e.sz)).map f0).toArray rfl (by omega) (by simp) (fun w' hw => ?_) (fun i r j x hi hj => ?_) hcap
      · rw [← he]; exact src0.first w' len hw (by rw [hln]; exact Nat.le_refl _)
      · have hil : i < len := by have := (List.getElem?_eq_some_iff.1 hi).1; omega
        have hi' : ((rows.drop 0).take len)[i]? = some r := by rw [List.getElem?_take_of_lt hil]; simpa using hi
        have hjl : j < e.sz := by have := (List.getElem?_eq_some_iff.1 hj).1; rwa [g4 r (List.mem_of_getElem? hi)] at this
        have hk : i * e.sz + j < len * e.sz := by
          have : (i + 1) * e.sz ≤ len * e.sz := Nat.mul_le_mul_right _ hil
          rw [Nat.add_mul] at this; omega
        exact ⟨f0 (i * e.sz + j), by simpa using range_get hk, src0.one _ (by rw [hln]; exact hk), src0.rep i r j x hi' hj⟩

end Go.Proofs.YtckglkbbdbmdkaaDoor.Nx
