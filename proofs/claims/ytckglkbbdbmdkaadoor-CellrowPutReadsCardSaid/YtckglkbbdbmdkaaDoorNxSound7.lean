/- What the abstract machine does, the model does: the rest of the operations that call nothing. -/
import Derived.Test.YtckglkbbdbmdkaaDoorNxSound6
namespace Go.Proofs.YtckglkbbdbmdkaaDoor.Nx
set_option linter.unusedSimpArgs false
set_option linter.unusedVariables false
set_option linter.unnecessarySimpa false
open Go

variable {P : Program} {w w' : World} {M : Nat → Prop} {ρ ρ' : Phys} {h h' : Heap}

theorem does_append_nil {t t' ty et : TypeId} {ti : TypeInfo} {zv : Value} {e : Elt} {new : List (List A)} {v x : Value} {f : Nat → Value} {pl : Option Nat} {K : A → Heap → Prop} (S : SimH w M ρ h) (bnd : ∀ b, M b → b < w.heap.size)
    (ht : P.underlying t = some (.slice et)) (ht' : (∃ e2, P.underlying t' = some (.slice e2)) ∨ P.underlying t' = some .string) (hti : P.info? et = some ti) (hz : ti.zero = some zv) (hzv : zv.cells.size = ti.size) (he : e.sz = ti.size) (heb : e.bytes = ti.bytes) (h0 : 0 < e.sz)
    (hx : RepA w M ρ h .nil v) (src : Src P w M ρ h e.sz new x f)
    (hK : if new = [] then K .nil h else new.length * e.bytes ≤ room ∧ new.length ≤ maxLen ∧ place pl h (.cells e new) fun id h1 => K (.ref id new.length 0 new.length true) h1) :
    ∃ r h', K r h' ∧ Does P (do pure (.value (← Builtin.append_ #[t, t'] ty #[v, x]))) w M ρ h r h' := by
  have := nil_inv hx
  subst this
  split at hK
  · rename_i hn
    subst hn
    have hrun := run_app_room (P := P) (w := w) (w' := w) (ty := ty) (x := x) (n := 0) (cap := 0) (m := 0) (base := none) (news := #[]) ht ht' hti (src.len w) (by rw [← he]; have := src.first w 0 rfl (by simp); simpa using this) (by simp) (fun _ h => by cases h) (fun _ => rfl)
    exact ⟨_, _, hK, .pure (v := .slice none 0 0) (by rw [Sem.run_bind, hrun]; rfl) .nil S⟩
  · obtain ⟨k1, k2, k3⟩ := hK
    obtain ⟨id, h1, ρ1, n, hKr⟩ := place_new (ρ := ρ) k3 none
    -- the same place, first with a block without rows
    have hn : ∃ h0 ρ0, NewAt h ρ (.cells e []) none pl id h0 ρ0 ∧ h0.set id (.cells e new) = h1 := by
      cases n with
      | push => exact ⟨_, _, .push, by simp⟩
      | set hr => exact ⟨_, _, .set hr, by simp⟩
    obtain ⟨h0', ρ0, n0, e1⟩ := hn
    have g := Evo.newNil (w := w) n0 S.len
    have src' : Src P w M ρ0 h0' e.sz new x f := ⟨src.rows, src.len, src.first, src.one, fun i r j y hi hj => g.rep' (src.rep i r j y hi hj)⟩
    have hd := does_append (P := P) (t := t) (t' := t') (ty := ty) (len := 0) (full := true) (id := id) (e := e) (rows := []) (v := .slice none 0 0) (x := x) (N := 0) (S.newNil h0 n0) bnd ht ht' hti hz hzv he heb n0.heap rfl (.ref0 n0.heap (n0.phys S.len)) src' (by simpa using k1) (by simpa using k2) (.inl rfl)
    simp only [List.take_nil, List.nil_append, List.drop_nil, List.append_nil, Nat.zero_add] at hd
    rw [e1] at hd
    obtain ⟨v', w', ρ', q1, q2, q3, q4⟩ := hd
    refine ⟨_, _, hKr, v', w', ρ', q1, q2, q3, g.trans (q4.mono (n0.len S.len).2)⟩

theorem does_copy {t t' ty et : TypeId} {ti : TypeInfo} {e : Elt} {rows new : List (List A)} {id N off len : Nat} {full : Bool} {v x : Value} {f : Nat → Value} (S : SimH w M ρ h)
    (ht : P.underlying t = some (.slice et)) (hti : P.info? et = some ti) (he : e.sz = ti.size)
    (hid : h[id]? = some (.cells e rows)) (hN : N = rows.length) (hx : RepA w M ρ h (.ref id N off len full) v) (src : Src P w M ρ h e.sz new x f) :
    Does P (do pure (.value (← Builtin.copy_ #[t, t'] ty #[v, x]))) w M ρ h (.int (min new.length len : Nat)) (h.set id (.cells e (rows.take off ++ new.take (min new.length len) ++ rows.drop (off + min new.length len)))) := by
  obtain ⟨g1, g2, g3, g4, g5⟩ := S.cells id e rows hid
  have hidl : id < h.length := (List.getElem?_eq_some_iff.1 hid).1
  have hn1 : min new.length len ≤ new.length := Nat.min_le_left _ _
  have hfirst := src.first w (min new.length len) rfl hn1
  have hmin : Nat.min new.length len = min new.length len := rfl
  have hle : min new.length len ≤ maxLen := by
    rcases ref_inv hx hid hN with ⟨_, _, _, rfl, _⟩ | ⟨_, _, _, _, _, _, hlen, _⟩
    · simp
    · have := Nat.min_le_right new.length len; omega
  by_cases hn : min new.length len = 0
  · rw [hn]
    have e1 : rows.take off ++ new.take 0 ++ rows.drop (off + 0) = rows := by simp
    have e2 : h.set id (.cells e rows) = h := by
      obtain ⟨hlt, heq⟩ := List.getElem?_eq_some_iff.1 hid
      rw [← heq]; exact List.set_getElem_self hlt
    rw [e1, e2]
    rw [hn] at hfirst
    refine .pure (v := .int .i64 0) ?_ (.d (.sc (has_i64 (n := 0) (by simp)))) S
    have hmin0 : Nat.min new.length len = 0 := hn
    rcases ref_inv hx hid hN with ⟨rfl, _⟩ | ⟨b, p, o, cap, hp, rfl, _⟩
    · simp [Builtin.copy_, run_underlying ht, src.len, hmin0, run_sizeOf hti, ← he, hfirst, goInt]
    · simp [Builtin.copy_, run_underlying ht, src.len, hmin0, run_sizeOf hti, ← he, hfirst, goInt, storeCells]
  · rcases ref_inv hx hid hN with ⟨rfl, _, _, rfl, _⟩ | ⟨b, p, o, cap, hp, rfl, hlen, hcap, hm, ho, hphys, hfull⟩
    · simp at hn
    · have hl2 : min new.length len ≤ len := Nat.min_le_right _ _
      have ho' : o = off * e.sz := ho.resolve_left (by omega)
      subst ho'
      rcases g5 with ⟨g5, _⟩ | ⟨b', p', cs, tb, g5, g6, g7, g8, g9, g10⟩
      · rw [hp] at g5; cases g5
      rw [hp] at g5; cases g5
      generalize hnn : min new.length len = n at *
      have hfit : off * e.sz + n * e.sz ≤ cs.size := by
        rw [g8, ← Nat.add_mul]
        exact Nat.le_trans (Nat.mul_le_mul_right _ (by omega)) hphys
      have hst := run_storeCells_at P b (off * e.sz) tb ((List.range (n * e.sz)).map f) 0 cs w g7 (by simp; omega) (fun u hu => by
        obtain ⟨k, hk, rfl⟩ := List.mem_map.1 hu
        have hk' : k < n * e.sz := by simpa using hk
        exact src.one k (Nat.lt_of_lt_of_le hk' (Nat.mul_le_mul_right _ hn1)))
      obtain ⟨q1, q2, q3, q4⟩ := seg_parts (cur := cs) (new := (List.range (n * e.sz)).map f) (o := off * e.sz) (by simp; omega)
      obtain ⟨hd, hh⟩ := setRow_differs (cs := (cs.toList.take (off * e.sz) ++ (List.range (n * e.sz)).map f ++ cs.toList.drop (off * e.sz + ((List.range (n * e.sz)).map f).length)).toArray) g7
      have hRl : (rows.take off ++ new.take n ++ rows.drop (off + n)).length = rows.length := by simp; omega
      have hRrows : ∀ r ∈ rows.take off ++ new.take n ++ rows.drop (off + n), r.length = e.sz := by
        intro r hr
        simp only [List.mem_append] at hr
        rcases hr with (hr | hr) | hr
        · exact g4 r (List.mem_of_mem_take hr)
        · exact src.rows r (List.mem_of_mem_take hr)
        · exact g4 r (List.mem_of_mem_drop hr)
      refine ⟨.int .i64 n, _, ρ, .inl ?_, .d (.sc (has_i64 hle)), S.put hid hp hd (by rw [hRl]; exact Nat.le_refl _) hh (by rw [q1]; exact g8) (by rw [hRl]; exact g2) (by rw [hRl]; exact g3) hRrows (by rw [hRl]; exact g9) (fun i r j y hi hj => ?_), .put hid hp hd (by rw [hRl]; exact Nat.le_refl _)⟩
      · have hmin2 : Nat.min new.length len = n := hnn
        rw [Nat.add_zero] at hst
        simp [Builtin.copy_, run_underlying ht, src.len, hmin2, run_sizeOf hti, ← he, hfirst, goInt]
        simpa using congrArg (fun r => (r.andThen fun _ w => Result.ok (Value.int .i64 n) w).andThen fun a w => Result.ok (Next.value a) w) hst
      · have hnl : (new.take n).length = n := by simp; omega
        refine app_cells (cur := cs) (len := off) (new := new.take n) (f := f) g10 g4 (fun r hr => src.rows r (List.mem_of_mem_take hr)) (fun k hk => src.one k ?_) (fun i r j y hi hj => ?_) (by omega) (fun k hk => q2 k hk) (fun k hk => ?_) (fun k hk _ => q4 k ?_) (by rw [hnl]; exact hi) hj
        · rw [hnl] at hk; exact Nat.lt_of_lt_of_le hk (Nat.mul_le_mul_right _ hn1)
        · have hil : i < n := by have := (List.getElem?_eq_some_iff.1 hi).1; omega
          rw [List.getElem?_take_of_lt hil] at hi
          exact src.rep i r j y hi hj
        · rw [hnl] at hk
          rw [q3 k (by simpa using hk)]
          exact range_get hk
        · simp only [List.length_map, List.length_range]; rw [hnl] at hk; rw [← Nat.add_mul]; exact hk

theorem does_make {t et : TypeId} {e : Elt} {z : List A} {n c : Int} {u u' : Value} {pl : Option Nat} {K : A → Heap → Prop} (S : SimH w M ρ h) (bnd : ∀ b, M b → b < w.heap.size)
    (ht : P.underlying t = some (.slice et)) (he : elt? P et = some e) (hz : zeroCells? P et = some z) (hs : small e = true) (hx : RepA w M ρ h (.int n) u) (hy : RepA w M ρ h (.int c) u')
    (h0 : 0 ≤ n) (h1 : n ≤ c) (h63 : c ≤ 9223372036854775807) (hroom : c * e.bytes ≤ room) (hK : place pl h (.cells e (List.replicate n.toNat z)) fun id h1 => K (.ref id n.toNat 0 n.toNat true) h1) :
    ∃ r h', K r h' ∧ Does P (do pure (.value (← Instr.makeSlice t u u'))) w M ρ h r h' := by
  obtain ⟨rfl, -⟩ := sc_inv hx
  obtain ⟨rfl, -⟩ := sc_inv hy
  obtain ⟨ti, zv, z1, z2, z3, z4, z5, z6⟩ := zero_rep (w := w) (M := M) (ρ := ρ) (h := h) hz
  obtain ⟨ti', hti, rfl⟩ := elt_some he
  rw [z1] at hti; cases hti
  obtain ⟨s1, s2⟩ := small_spec hs
  dsimp only at *
  have hb : (ti.bytes : Int) * c ≤ 281474976710656 := by rw [Int.mul_comm]; unfold room at hroom; omega
  have hrun := run_make (P := P) w t et ti zv ht z1 z2 .i64 .i64 n c h0 h1 hb h63
  have hR := zero_rows (n := c.toNat) (w := w) (M := M) (ρ := ρ) (h := h) (sz := ti.size) (zv := zv.cells) (z := z) ⟨by omega, z5, z6⟩ z4 s1
  have hcs : (madeCells zv.cells (c.toNat * ti.size)).size = c.toNat * ti.size := size_madeCells _ _
  have hnc : n.toNat ≤ c.toNat := by omega
  have hcb : c.toNat * ti.bytes ≤ room := by
    have : ((c.toNat * ti.bytes : Nat) : Int) ≤ room := by
      rw [Int.natCast_mul]
      have : (c.toNat : Int) = c := by omega
      rw [this]; exact hroom
    omega
  obtain ⟨id, h1', ρ1, nw, hKr⟩ := place_new (ρ := ρ) hK (some (w.heap.size, (madeCells zv.cells (c.toNat * ti.size)).size))
  refine ⟨_, _, hKr, _, _, ρ1, .inl (by rw [Sem.run_bind, hrun]; rfl), ?_, S.newCells bnd et nw s1 ?_ ?_ ?_ ?_ ?_, .newAlloc nw S.len⟩
  · have := RepA.ref (w := w.alloc (.cells (madeCells zv.cells (c.toNat * ti.size)) et)) (M := M) (off := 0) (len := n.toNat) (o := 0) (cap := c.toNat) (full := true) nw.heap (nw.phys S.len) (by simp) hnc (by unfold maxLen; omega) (.inr (by simp)) (by rw [hcs]; simp) (fun _ => by simp; omega)
    simpa using this
  · simp only [List.length_replicate]; exact Nat.le_trans (Nat.mul_le_mul_right _ hnc) hcb
  · simp only [List.length_replicate]; unfold maxLen; omega
  · intro r hr; rw [(List.mem_replicate.1 hr).2]; exact z4
  · simp only [List.length_replicate, hcs]; exact Nat.mul_le_mul_right _ hnc
  · intro i r j x hi hj
    have hi' : i < n.toNat := by have := (List.getElem?_eq_some_iff.1 hi).1; simpa using this
    have hr : r = z := by
      have := List.getElem?_replicate_of_lt (a := z) hi'
      rw [this] at hi; exact (Option.some.inj hi).symm
    subst hr
    exact hR.get (List.getElem?_replicate_of_lt (by omega)) hj

theorem does_minmax2 {isMax : Bool} {k : IntKind} {a b : Int} {u v : Value} {ts : Array TypeId} {ty : TypeId} (S : SimH w M ρ h) (hx : RepA w M ρ h (.sc (.int k a)) u) (hy : RepA w M ρ h (.sc (.int k b)) v) :
    Does P (do pure (.value (← if isMax then Builtin.max_ ts ty #[u, v] else Builtin.min_ ts ty #[u, v]))) w M ρ h (.sc (.int k (minmaxInt isMax a b))) h := by
  obtain ⟨rfl, ha⟩ := sc_inv hx
  obtain ⟨rfl, hb⟩ := sc_inv hy
  refine .pure (v := .int k (minmaxInt isMax a b)) ?_ (.d (.sc ?_)) S
  · cases isMax <;> simp [Builtin.max_, Builtin.min_, Builtin.max2, Builtin.min2, minmaxInt]
  · unfold minmaxInt; cases isMax <;> simp only [Bool.false_eq_true, if_false, if_true] <;> split <;> assumption

theorem does_minmax3 {isMax : Bool} {k : IntKind} {a b c : Int} {u v x : Value} {ts : Array TypeId} {ty : TypeId} (S : SimH w M ρ h) (hx : RepA w M ρ h (.sc (.int k a)) u) (hy : RepA w M ρ h (.sc (.int k b)) v) (hz : RepA w M ρ h (.sc (.int k c)) x) :
    Does P (do pure (.value (← if isMax then Builtin.max_ ts ty #[u, v, x] else Builtin.min_ ts ty #[u, v, x]))) w M ρ h (.sc (.int k (minmaxInt isMax (minmaxInt isMax a b) c))) h := by
  obtain ⟨rfl, ha⟩ := sc_inv hx
  obtain ⟨rfl, hb⟩ := sc_inv hy
  obtain ⟨rfl, hc⟩ := sc_inv hz
  refine .pure (v := .int k (minmaxInt isMax (minmaxInt isMax a b) c)) ?_ (.d (.sc ?_)) S
  · cases isMax <;> simp [Builtin.max_, Builtin.min_, Builtin.max2, Builtin.min2, minmaxInt]
  · unfold minmaxInt; cases isMax <;> simp only [Bool.false_eq_true, if_false, if_true] <;> (repeat' split) <;> assumption

theorem does_aaddr {t et : TypeId} {n : Nat} {ti : TypeInfo} {x y : A} {v u : Value} {K : A → Heap → Prop} (S : SimH w M ρ h) (ht : P.underlying t = some (.array n et)) (hti : P.info? et = some ti) (hx : RepA w M ρ h x v) (hy : RepA w M ρ h y u)
    (hK : match (generalizing := false) x, y with
      | .ptr id N i' off, .d (.sc (.int _ m)) => match h[id]? with
        | some (.cells _ rows) => N = rows.length ∧ 0 ≤ m ∧ m < n ∧ K (.ptr id N i' (off + m.toNat * ti.size)) h
        | _ => False
      | .iptr cs, .d (.sc (.int _ m)) => 0 ≤ m ∧ m < n ∧ K (.iptr (cs.drop (m.toNat * ti.size))) h
      | _, _ => False) :
    ∃ r h', K r h' ∧ Does P (do pure (.value (← Instr.indexAt t v u))) w M ρ h r h' := by
  have run : ∀ (a : Addr) (k : IntKind) (m : Int), 0 ≤ m → m < n → (Instr.indexAt t (.pointer (some a)) (.int k m)).run P w = .ok (.pointer (some (a.add (m.toNat * ti.size)))) w := by
    intro a k m h0 h1
    simp [Instr.indexAt, asIntOf, run_underlying ht, Instr.sureAddr, h0, h1, run_sizeOf hti]
  split at hK
  · rename_i id N i' off k m
    obtain ⟨rfl, -⟩ := sc_inv hy
    split at hK
    · rename_i e rows hid
      obtain ⟨hN, h0, h1, hK⟩ := hK
      obtain ⟨b, p, hρ, rfl⟩ := ptr_inv hx hid hN
      refine ⟨_, _, hK, .pure (by rw [Sem.run_bind, run _ _ _ h0 h1]; rfl) ?_ S⟩
      rw [add_off, Nat.add_assoc, hN]
      exact .ptr hid hρ
    · exact hK.elim
  · rename_i cs k m
    obtain ⟨rfl, -⟩ := sc_inv hy
    obtain ⟨h0, h1, hK⟩ := hK
    cases hx with
    | iptr f hc hr =>
      refine ⟨_, _, hK, .pure (by rw [Sem.run_bind, run _ _ _ h0 h1]; rfl) ?_ S⟩
      refine .iptr (fun j => f (m.toNat * ti.size + j)) (fun j d hj => ?_) (fun j d hj => ?_)
      · rw [List.getElem?_drop] at hj
        rw [add_add, add_block]
        exact hc _ d hj
      · rw [List.getElem?_drop] at hj
        exact hr _ d hj
  · exact hK.elim

theorem does_aidx {t et : TypeId} {n : Nat} {ti : TypeInfo} {x y : A} {v u : Value} {K : A → Heap → Prop} (S : SimH w M ρ h) (ht : P.underlying t = some (.array n et)) (hti : P.info? et = some ti) (hk : known P et = true) (hx : RepA w M ρ h x v) (hy : RepA w M ρ h y u)
    (hK : match (generalizing := false) x, y with
      | .agg cs, .d (.sc (.int _ m)) => 0 ≤ m ∧ m < n ∧ loadsTo ti.size (aggB P et) (cs.drop (m.toNat * ti.size)) fun a => K a h
      | _, _ => False) :
    ∃ r h', K r h' ∧ Does P (do pure (.value (← Instr.index t v u))) w M ρ h r h' := by
  split at hK
  · rename_i cs k m
    obtain ⟨rfl, -⟩ := sc_inv hy
    obtain ⟨h0, h1, hK⟩ := hK
    obtain ⟨vs, rfl⟩ : ∃ vs, v = .agg vs := by cases hx; exact ⟨_, rfl⟩
    obtain ⟨a, b, hKa, hrun, hrep⟩ := run_part (P := P) hk hti hx hK
    refine ⟨a, h, hKa, .pure ?_ hrep S⟩
    simp [Instr.index, asIntOf, run_underlying ht, h0, h1, run_sizeOf hti, hrun]
  · exact hK.elim

end Go.Proofs.YtckglkbbdbmdkaaDoor.Nx
