/- What the abstract machine does, the model does: conversions of strings, and going over a string. -/
import Derived.Test.YtckglkbbdbmdkaaDoorNxSound7
import Derived.Laws.BytesArg
import Derived.RangeFuncRecord
namespace Go.Proofs.YtckglkbbdbmdkaaDoor.Nx
set_option linter.unusedSimpArgs false
set_option linter.unusedVariables false
set_option linter.unnecessarySimpa false
open Go

variable {P : Program} {w w' : World} {M : Nat → Prop} {ρ ρ' : Phys} {h h' : Heap}

theorem mapM_spec {α β : Type} {f : α → Option β} : ∀ {l : List α} {ys : List β}, l.mapM f = some ys → ys.length = l.length ∧ ∀ (j : Nat) (x : α), l[j]? = some x → ∃ y, ys[j]? = some y ∧ f x = some y := by
  intro l
  induction l with
  | nil => intro ys hm; simp at hm; subst hm; simp
  | cons a l ih =>
    intro ys hm
    simp only [List.mapM_cons, Option.bind_eq_bind, Option.pure_def, Option.bind_eq_some_iff, Option.some.injEq] at hm
    obtain ⟨y, hy, ys', hys, rfl⟩ := hm
    obtain ⟨h1, h2⟩ := ih hys
    refine ⟨by simp [h1], fun j x hj => ?_⟩
    cases j with
    | zero => simp at hj; subst hj; exact ⟨y, by simp, hy⟩
    | succ j => simp at hj; simpa using h2 j x hj

/-! ### Characters of a string -/
theorem runesFrom_eq (s : ByteArray) : ∀ (b i : Nat) (acc : Array Value), Conv.runesFrom s b i acc = acc ++ ((runesGo s b i).map fun (n : Nat) => Value.int .i32 (n : Int)).toArray
  | 0, i, acc => by simp [Conv.runesFrom, runesGo]
  | b + 1, i, acc => by
    simp only [Conv.runesFrom, runesGo]
    split
    · rw [runesFrom_eq s b]
      simp
    · simp

theorem runesGo_length (s : ByteArray) : ∀ b i, (runesGo s b i).length ≤ b
  | 0, i => by simp [runesGo]
  | b + 1, i => by
    simp only [runesGo]
    split
    · simp only [List.length_cons]; have := runesGo_length s b (i + (Utf8.decode s i).2); omega
    · simp

theorem decode_le (s : ByteArray) (i : Nat) : (Utf8.decode s i).1 ≤ 1114111 := by
  unfold Utf8.decode
  dsimp only
  split
  · dsimp only; omega
  · split
    · split
      · dsimp only; omega
      · simp [Utf8.runeError]
    · split
      · split
        · dsimp only; omega
        · simp [Utf8.runeError]
      · split
        · split
          · rename_i hv
            simp only [Utf8.valid, Bool.and_eq_true, Bool.or_eq_true, decide_eq_true_eq] at hv
            dsimp only; omega
          · simp [Utf8.runeError]
        · simp [Utf8.runeError]

theorem runesGo_le (s : ByteArray) : ∀ b i, ∀ n ∈ runesGo s b i, n ≤ 1114111
  | 0, i => by simp [runesGo]
  | b + 1, i => by
    simp only [runesGo]
    split
    · intro n hn
      rcases List.mem_cons.1 hn with rfl | hn
      · exact decode_le s i
      · exact runesGo_le s b _ n hn
    · simp

theorem has_i32 {n : Nat} (hn : n ≤ 1114111) : scOk (.int .i32 n) := by
  have h1 : IntKind.i32.min = -2147483648 := by decide
  have h2 : IntKind.i32.max = 2147483647 := by decide
  exact ⟨by rw [h1]; omega, by rw [h2]; omega⟩

/-- A block that is nobody's own comes in. -/
theorem Evo.foreign (hos : w'.os = w.os) (ht : w'.tape = w.tape) (ho : w'.output = w.output) (hsz : w.heap.size ≤ w'.heap.size) (hold : ∀ b, b < w.heap.size → w'.heap[b]? = w.heap[b]?) : Evo h.length h ρ w h ρ w' :=
  ⟨hos, ht, ho, hsz, fun b hb _ => hold b hb, fun id b p hb => .inr ⟨id, p, hb⟩, Nat.le_refl _, fun _ _ _ hb => .refl hb⟩

theorem SimH.foreign (S : SimH w M ρ h) (g : Evo h.length h ρ w h ρ w') (hold : ∀ b, b < w.heap.size → w'.heap[b]? = w.heap[b]?) : SimH w' M ρ h where
  len := S.len
  cells id e rows hB := by
    obtain ⟨q1, q2, q3, q4, q5⟩ := S.cells id e rows hB
    refine ⟨q1, q2, q3, q4, ?_⟩
    rcases q5 with q5 | ⟨b, p, cs, t, k1, k2, k3, k4, k5, k6⟩
    · exact .inl q5
    · have hb : b < w.heap.size := (Array.getElem?_eq_some_iff.1 k3).1
      refine .inr ⟨b, p, cs, t, k1, k2, (hold b hb).trans k3, k4, k5, fun i r j x hi hj => ?_⟩
      obtain ⟨v, r1, r2, r3⟩ := k6 i r j x hi hj
      exact ⟨v, r1, r2, g.rep' r3⟩
  obj id o hB := by
    obtain ⟨b, p, k1, k2, k3, k4⟩ := S.obj id o hB
    exact ⟨b, p, k1, k2, (hold b (Array.getElem?_eq_some_iff.1 k3).1).trans k3, k4⟩
  res := S.res
  inj := S.inj

theorem run_convert_runes (src dst et : TypeId) (s : ByteArray) (hs : P.underlying src = some .string) (hd : P.underlying dst = some (.slice et)) (he : P.underlying et = some (.int .i32)) :
    (convert src dst (.string s)).run P w = .ok (.slice (some ⟨w.heap.size, 0, none⟩) (runesOf s).length (grownCap w (runesOf s).length 0 et))
      (w.drew.alloc (.cells (((runesOf s).map fun (n : Nat) => Value.int .i32 (n : Int)).toArray ++ Array.replicate (grownCap w (runesOf s).length 0 et - (runesOf s).length) (.int .i32 0)) et)) := by
  simp [convert, run_underlying hs, run_underlying hd, run_underlying he, Conv.stringToRunes, newRow, Question.forced, grownCap, runesFrom_eq, runesOf]

theorem does_s2r {src dst et : TypeId} {e : Elt} {s : ByteArray} {u : Value} (S : SimH w M ρ h) (bnd : ∀ b, M b → b < w.heap.size) (hs : P.underlying src = some .string) (hd : P.underlying dst = some (.slice et)) (he : P.underlying et = some (.int .i32)) (hsz : e.sz = 1)
    (hx : RepA w M ρ h (.str s) u) (hroom : (runesOf s).length * e.bytes ≤ room) :
    Does P (do pure (.value (← convert src dst u))) w M ρ h (.d (.sl e ((runesOf s).map runeRow))) h := by
  obtain ⟨rfl, hss⟩ := sc_inv hx
  have hrun := run_convert_runes (P := P) (w := w) src dst et s hs hd he
  have hlen : (runesOf s).length ≤ maxLen := Nat.le_trans (runesGo_length s _ _) hss
  generalize hcs : (((runesOf s).map fun (n : Nat) => Value.int .i32 (n : Int)).toArray ++ Array.replicate (grownCap w (runesOf s).length 0 et - (runesOf s).length) (.int .i32 0)) = cs at hrun
  have hold : ∀ b, b < w.heap.size → (w.drew.alloc (.cells cs et)).heap[b]? = w.heap[b]? := fun b hb => by
    simp [World.alloc, World.drew, -World.alloc_eq, -World.drew_eq, Array.getElem?_push, show b ≠ w.heap.size by omega]
  have g : Evo h.length h ρ w h ρ (w.drew.alloc (.cells cs et)) := .foreign rfl rfl rfl (by simp [World.alloc, World.drew, -World.alloc_eq, -World.drew_eq]) hold
  have hnew : (w.drew.alloc (.cells cs et)).heap[w.heap.size]? = some (.cells cs et (0, 0)) := by
    simp [World.alloc, World.drew, -World.alloc_eq, -World.drew_eq]
  have hown : ¬ Own M ρ w.heap.size := by
    rintro (hm | ⟨id, p, hp⟩)
    · exact absurd (bnd _ hm) (Nat.lt_irrefl _)
    · exact absurd (S.lt hp) (Nat.lt_irrefl _)
  refine ⟨_, _, ρ, .inl (by rw [Sem.run_bind, hrun]; rfl), ?_, S.foreign g hold, g⟩
  have key : ∀ (i : Nat) (r : List D) (j : Nat) (d : D), ((runesOf s).map runeRow)[i]? = some r → r[j]? = some d → ∃ n : Nat, cs[i * e.sz + j]? = some (.int .i32 n) ∧ d = .sc (.int .i32 n) ∧ n ≤ 1114111 := by
    intro i r j d hi hj
    simp only [List.getElem?_map, Option.map_eq_some_iff] at hi
    obtain ⟨n, hn, rfl⟩ := hi
    cases j with
    | succ j => simp [runeRow] at hj
    | zero =>
      simp only [runeRow, List.getElem?_cons_zero, Option.some.injEq] at hj
      have hlt : i < (runesOf s).length := (List.getElem?_eq_some_iff.1 hn).1
      refine ⟨n, ?_, hj.symm, runesGo_le s _ _ n (List.mem_of_getElem? hn)⟩
      rw [hsz, Nat.mul_one, Nat.add_zero, ← hcs, Array.getElem?_append_left (by simpa using hlt)]
      simp [hn]
  have hl' : ((runesOf s).map runeRow).length = (runesOf s).length := by simp
  rw [← hl']
  refine .d (.sl (fun i j => cs.getD (i * e.sz + j) undef) ?_ (grownCap_le_maxLen w _ 0 et (by rw [hl']; exact hlen)) (by rw [hl']; exact hroom) (fun r hr => ?_) (fun i r j d hi hj => ?_) (fun i r j d hi hj => ?_))
  · exact grownCap_ge w _ 0 et
  · obtain ⟨n, _, rfl⟩ := List.mem_map.1 hr
    simp [runeRow, hsz]
  · obtain ⟨n, h1, h2, h3⟩ := key i r j d hi hj
    refine ⟨?_, hown⟩
    rw [add_off, Nat.zero_add]
    simp only [World.cell?, hnew]
    rw [Array.getD_eq_getD_getElem?, h1]
    simpa using h1
  · obtain ⟨n, h1, rfl, h3⟩ := key i r j d hi hj
    rw [Array.getD_eq_getD_getElem?, h1]
    exact .sc (has_i32 h3)

/-! ### Bytes to a string -/
theorem sliceRows_src {e : Elt} {x : A} {rows : List (List A)} (hs : sliceRows e h x = some rows) : srcRows e h x = some rows := by
  unfold sliceRows at hs
  split at hs
  · cases hs
  · exact hs

theorem slice_value {e : Elt} {x : A} {rows : List (List A)} {u : Value} (hs : sliceRows e h x = some rows) (hx : RepA w M ρ h x u) (S : SimH w M ρ h) : ∃ a n c, u = .slice a n c := by
  cases x with
  | nil => cases hx; exact ⟨_, _, _, rfl⟩
  | d y => cases y with
    | sc v => simp [sliceRows] at hs
    | sl e' r => cases hx with
      | d hy => obtain ⟨a, c, rfl, _⟩ := sl_inv hy; exact ⟨_, _, _, rfl⟩
  | nn e' r => obtain ⟨_, a, n, c, rfl⟩ := nn_inv hx; exact ⟨_, _, _, rfl⟩
  | ref id N off len full =>
    simp only [sliceRows, srcRows] at hs
    split at hs
    · rename_i hid
      split at hs
      · rename_i hc
        rcases ref_inv hx hid hc.2 with ⟨rfl, _⟩ | ⟨b, p, o, cap, hp, rfl, _⟩
        · exact ⟨_, _, _, rfl⟩
        · exact ⟨_, _, _, rfl⟩
      · cases hs
    · cases hs
  | _ => simp [sliceRows, srcRows] at hs

theorem does_b2s {src dst et : TypeId} {x : A} {rows : List (List A)} {ns : List Int} {u : Value} (S : SimH w M ρ h) (hs : P.underlying src = some (.slice et)) (hd : P.underlying dst = some .string) (he : P.underlying et = some (.int .u8))
    (hx : RepA w M ρ h x u) {e : Elt} (hsz : e.sz = 1) (hr : sliceRows e h x = some rows) (hn : rows.mapM byteOf = some ns) (hl : ns.length ≤ maxLen) :
    Does P (do pure (.value (← convert src dst u))) w M ρ h (.str (strOfNums ns)) h := by
  obtain ⟨a, n, c, rfl⟩ := slice_value hr hx S
  obtain ⟨f, src'⟩ := src_ok (P := P) S (by omega) hx (sliceRows_src hr)
  obtain ⟨m1, m2⟩ := mapM_spec hn
  have hlen := src'.len w
  simp only [Builtin.lenOf, Sem.run_pure, Result.ok.injEq, and_true] at hlen
  have hfirst := src'.first w rows.length rfl (Nat.le_refl _)
  rw [hsz, Nat.mul_one] at hfirst
  refine .pure (v := .string (strOfNums ns)) ?_ (.d (.sc (by show (strOfNums ns).size ≤ maxLen; rw [strOfNums_size]; exact hl))) S
  rw [Sem.run_bind, run_convert_bytes_string w src dst et a n c hs he hd]
  cases a with
  | none =>
    have h0 : rows.length = 0 := by
      simp only [Builtin.firstCells, Sem.run_pure, Result.ok.injEq, and_true] at hfirst
      have := congrArg Array.size hfirst
      simpa using this.symm
    have : ns = [] := List.eq_nil_of_length_eq_zero (by omega)
    subst this
    simp [Conv.bytesToString, strOfNums]
    rfl
  | some a =>
    have hcells : ((List.range rows.length).map f).toArray = (ns.map (Value.int .u8)).toArray := by
      congr 1
      apply List.ext_getElem?
      intro i
      by_cases hi : i < rows.length
      · obtain ⟨y, hy, hb⟩ := m2 i _ (List.getElem?_eq_getElem hi)
        have hrow : rows[i]? = some rows[i] := List.getElem?_eq_getElem hi
        generalize rows[i] = r at hb hrow
        have hr1 : r = [.d (.sc (.int .u8 y))] := by
          unfold byteOf at hb
          split at hb
          · cases hb; rfl
          · cases hb
        subst hr1
        have hrep := src'.rep i _ 0 _ hrow rfl
        rw [hsz, Nat.mul_one, Nat.add_zero] at hrep
        obtain ⟨hf, _⟩ := sc_inv hrep
        simp [hi, hy, hf]
      · rw [List.getElem?_eq_none (by simpa using hi), List.getElem?_eq_none (by simp; omega)]
    simp only [Builtin.firstCells, Nat.mul_one] at hfirst
    rw [hcells] at hfirst
    have hn' : n = rows.length := by simpa using hlen
    subst hn'
    rw [run_bytesToString w a _ c ns (by simpa using hfirst), foldl_push_bytes]
    simp [strOfNums, ByteArray.empty, ByteArray.emptyWithCapacity]
    rfl

theorem encode_size (n : Int) : (Utf8.encode n).size ≤ 4 := by
  unfold Utf8.encode
  generalize (if Utf8.valid n = true then n.toNat else Utf8.runeError) = c
  dsimp only
  repeat' split
  all_goals simp [ByteArray.size]

theorem does_i2s {src dst : TypeId} {k : IntKind} {n : Int} {u : Value} {kk : IntKind} (S : SimH w M ρ h) (hs : P.underlying src = some (.int kk)) (hd : P.underlying dst = some .string) (hx : RepA w M ρ h (.sc (.int k n)) u) :
    Does P (do pure (.value (← convert src dst u))) w M ρ h (.str (Utf8.encode n)) h := by
  obtain ⟨rfl, _⟩ := sc_inv hx
  refine .pure (v := .string (Utf8.encode n)) ?_ (.d (.sc (Nat.le_trans (encode_size n) (by decide)))) S
  simp [convert, run_underlying hs, run_underlying hd, Conv.intToString]

theorem does_cap_nil {t ty et : TypeId} {u : Value} (S : SimH w M ρ h) (hu : P.underlying t = some (.slice et)) (hx : RepA w M ρ h .nil u) :
    Does P (do pure (.value (← Builtin.cap_ #[t] ty #[u]))) w M ρ h (.int 0) h := by
  rw [nil_inv hx]
  refine .pure (v := .int .i64 0) ?_ (.d (.sc (has_i64 (n := 0) (by simp)))) S
  simp [Builtin.cap_, run_underlying hu, goInt]

/-! ### Going over a string -/
theorem does_iter {t : TypeId} {s : ByteArray} {u : Value} {pl : Option Nat} {K : A → Heap → Prop} (S : SimH w M ρ h) (bnd : ∀ b, M b → b < w.heap.size) (hu : P.underlying t = some .string) (hx : RepA w M ρ h (.str s) u)
    (hK : place pl h (.obj (.stringIter s 0)) fun id h1 => K (.ptr id 0 0 0) h1) : ∃ r h', K r h' ∧ Does P (do pure (.value (← Instr.range t u))) w M ρ h r h' := by
  obtain ⟨rfl, _⟩ := sc_inv hx
  obtain ⟨id, h1, ρ1, n, hKr⟩ := place_new (ρ := ρ) hK (some (w.heap.size, 0))
  refine ⟨_, _, hKr, .pointer (some ⟨w.heap.size, 0, none⟩), w.alloc (.stringIter s 0), ρ1, .inl ?_, .obj n.heap (n.phys S.len), S.newObj bnd n (fun c t f => by simp), .newAlloc n S.len⟩
  simp [Instr.range, run_underlying hu]

theorem does_next {ty : TypeId} {s : ByteArray} {pos id : Nat} {u : Value} {K : A → Heap → Prop} (S : SimH w M ρ h) (hx : RepA w M ρ h (.ptr id 0 0 0) u) (hid : h[id]? = some (.obj (.stringIter s pos))) (hs : s.size ≤ maxLen)
    (hK : nextStr s pos id h K) : ∃ r h', K r h' ∧ Does P (do pure (.value (← Instr.next u true ty))) w M ρ h r h' := by
  have hv : ∃ b p, u = .pointer (some ⟨b, 0, none⟩) ∧ ρ[id]? = some (some (b, p)) := by
    generalize hz : (0 : Nat) = z at hx
    cases hx with
    | ptr hh hp => rw [hid] at hh; cases hh
    | pstale hh _ _ => rw [hid] at hh; cases hh
    | obj hh hp => exact ⟨_, _, rfl, hp⟩
  obtain ⟨b, p, rfl, hρ⟩ := hv
  obtain ⟨b', p', k1, k2, k3, k4⟩ := S.obj id _ hid
  rw [hρ] at k1
  cases k1
  have hlt : b < w.heap.size := (Array.getElem?_eq_some_iff.1 k3).1
  simp only [nextStr] at hK
  split at hK
  · rename_i hp
    have hd : Differs b w (w.putObj b (.stringIter s (pos + (Utf8.decode s pos).2))) := ⟨rfl, rfl, rfl, by simp [World.putObj], fun j hj => World.putObj_heap_other (fun e => hj e)⟩
    refine ⟨_, _, hK, .tuple #[.bool true, goInt pos, .int .i32 (Utf8.decode s pos).1], w.putObj b (.stringIter s (pos + (Utf8.decode s pos).2)), ρ, .inl ?_, ?_, S.putObj hid hρ hd (World.putObj_heap_same hlt) (fun c t f => by simp), .putObj hid hρ hd⟩
    · simp [Instr.next, getObj, setObj, Sem.run, k3, hp, World.putObj]
    · refine .tup rfl fun j x hj => ?_
      match j with
      | 0 => simp at hj; subst hj; exact .d (.sc trivial)
      | 1 => simp at hj; subst hj; exact .d (.sc (has_i64 (n := pos) (by omega)))
      | 2 =>
        simp at hj; subst hj
        exact .d (.sc (has_i32 (decode_le s pos)))
      | j + 3 => simp at hj
  · rename_i hp
    refine ⟨_, _, hK, .pure (v := .tuple #[.bool false]) ?_ (.tup rfl fun j x hj => ?_) S⟩
    · simp [Instr.next, getObj, Sem.run, k3, hp]
    · cases j with
      | zero => simp at hj; subst hj; exact .d (.sc trivial)
      | succ j => simp at hj

end Go.Proofs.YtckglkbbdbmdkaaDoor.Nx
