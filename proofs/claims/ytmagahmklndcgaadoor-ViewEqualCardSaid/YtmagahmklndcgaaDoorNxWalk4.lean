/- Helpers of walks. -/
import Derived.Test.YtmagahmklndcgaaDoorNxRange
import Derived.Test.YtmagahmklndcgaaDoorNxWalk3
import Derived.Test.YtmagahmklndcgaaDoorNxFact
namespace Go.Proofs.YtmagahmklndcgaaDoor.Nx
set_option linter.unusedSimpArgs false
set_option linter.unusedVariables false
set_option linter.unnecessarySimpa false
open Go

variable {P : Program} {N : Nat} {Γ : Tabs}

/-- Own blocks become data that nobody writes any more. -/
theorem Co.frz {n0 : Nat} {s : St} (l : List (Nat × A)) (k : Nat) (hl : ∀ p ∈ l, FrzA k s.heap (s.slots p.1) p.2) (hn : n0 ≤ k) (hk : k ≤ s.heap.length) (hu : ∀ B ∈ s.heap.take k, HB.under k B) : Co n0 s ⟨look l, s.heap.take k⟩ :=
  fun z M ρ a w hz S => ⟨ρ.take k, ⟨S.bnd, S.sim.take hk hu, fun n => by
    rcases look_mem (l := l) (n := n) with h | h
    · show RepA w M _ _ (look l n) _
      rw [h]; exact .any
    · exact (hl _ h).rep S.sim hk (S.slots n), S.size, S.nlt, S.tabs.take (Nat.le_trans hz.1 hn) hk, S.defers.evo (Evo.take (n0 := k) (h := s.heap) (w := w) (Nat.le_refl _) hk)⟩, .take hn hk⟩

theorem W_sreg {Γ : Ctx} {rl : Option Nat} {n0 : Nat} {xs : List XOper} {y : XC} {Q : Exit → St → Prop} {s : St} (h : ∀ K : St → Prop, (∀ s', W Γ P N rl n0 y Q s' → K s') → runX (.all Γ P) s.heap.length xs s K) : W Γ P N rl n0 (.seq (.reg xs) y) Q s :=
  W_seq (W_reg (h _ fun _ h => h))

theorem W_sdrw {Γ : Ctx} {rl : Option Nat} {n0 : Nat} {m : Nat} {rt : List (Nat × Option Nat)} {xs : List XOper} {y : XC} {Q : Exit → St → Prop} {s : St} (hr : ∀ p ∈ rt, (s.slots p.1).touch = none)
    (h : ∀ K : St → Prop, (∀ s', W Γ P N rl n0 y Q s' → K s') → runX (.all Γ P) s.heap.length xs { s with heap := s.heap ++ List.replicate m .res } K) : W Γ P N rl n0 (.seq (.drw m xs rt) y) Q s :=
  W_seq (W_drw hr (h _ fun _ h => h))

theorem W_regK {Γ : Ctx} {rl : Option Nat} {n0 : Nat} {xs : List XOper} {Q : Exit → St → Prop} {s : St} (h : ∀ K : St → Prop, (∀ s', Q .normal s' → K s') → runX (.all Γ P) s.heap.length xs s K) : W Γ P N rl n0 (.reg xs) Q s :=
  W_reg (h _ fun _ h => h)

/-- A region, a part at a time. -/
theorem run_take {F : Fns} {b : Nat} {K : St → Prop} : ∀ (n : Nat) {l : List XOper} {s : St}, (∀ K' : St → Prop, (∀ s', runX F b (l.drop n) s' K → K' s') → runX F b (l.take n) s K') → runX F b l s K := by
  intro n l s h
  have : ∀ (n : Nat) (l : List XOper) (s : St), runX F b (l.take n) s (fun s' => runX F b (l.drop n) s' K) → runX F b l s K := by
    intro n
    induction n with
    | zero => intro l s h; exact h
    | succ n ih =>
      intro l s h
      cases l with
      | nil => exact h
      | cons x l => exact stepX_mono (fun s' hs => ih l s' hs) h
  exact this n l s (h _ fun _ h => h)

theorem take_eq_succ {α : Type} {a b : List α} {i : Nat} (hi : i < a.length) (hj : i < b.length) (h : a.take i = b.take i) (he : a[i] = b[i]) : a.take (i + 1) = b.take (i + 1) := by
  rw [List.take_add_one, List.take_add_one, h, List.getElem?_eq_getElem hi, List.getElem?_eq_getElem hj, he]

theorem any_take_succ {α : Type} {p : α → Bool} {l : List α} {i : Nat} (hi : i < l.length) (h : (l.take i).any p = false) (hp : p l[i] = false) : (l.take (i + 1)).any p = false := by
  rw [List.take_add_one, List.getElem?_eq_getElem hi]
  simp only [Option.toList_some, List.any_append, h, List.any_cons, hp, List.any_nil, Bool.or_false]

theorem le_of_mul {a b c : Nat} (h : a * (b + 1) ≤ c) : a ≤ c := Nat.le_trans (Nat.le_mul_of_pos_right a (Nat.succ_pos b)) h

theorem i64_of {x : Int} (h : -9000000000000000000 ≤ x ∧ x ≤ 9000000000000000000) : IntKind.i64.wrap x = x := IntWalk.i64_in _ (by omega)

theorem i64_succ {i n : Nat} (hi : i < n) (hn : n ≤ room) : IntKind.i64.wrap ((i : Int) + 1) = ((i + 1 : Nat) : Int) := by
  rw [IntWalk.i64_in _ (by unfold room at hn; omega)]; rfl

theorem i64_succ' {i n : Nat} (hi : i < n) (hn : n ≤ room) : IntKind.i64.wrap ((i : Int) + 1) = (i : Int) + 1 := IntWalk.i64_in _ (by unfold room at hn; omega)

theorem i64_pred {n : Nat} (hn : n ≤ room) : IntKind.i64.wrap (((n + 1 : Nat) : Int) - 1) = (n : Int) := by
  rw [IntWalk.i64_in _ (by unfold room at hn; omega)]; omega

theorem i64_nat {n : Nat} (hn : n ≤ room) : IntKind.i64.wrap (n : Int) = (n : Int) := IntWalk.i64_in _ (by unfold room at hn; omega)

theorem Turn.app {L : List (Nat × HB)} {h : Heap} (hL : Has L h) (t : Heap) : Turn L L h (h ++ t) :=
  ⟨hL.app t, by simp, fun q hq _ => List.getElem?_append_left hq, fun q hq => .inl hq⟩

theorem hp_g0 {h t : Heap} {B : HB} : (h ++ B :: t)[h.length]? = some B := by simp

theorem hp_g1 {h t : Heap} {B C : HB} : (h ++ B :: C :: t)[h.length + 1]? = some C := by
  rw [List.getElem?_append_right (by omega)]; simp

theorem hp_s0 {h t : Heap} {B X : HB} : (h ++ B :: t).set h.length X = h ++ X :: t := by simp

theorem hp_s1 {h t : Heap} {B C X : HB} : (h ++ B :: C :: t).set (h.length + 1) X = h ++ B :: X :: t := by
  rw [List.set_append_right _ _ (by omega)]; simp

theorem RetQ.tmp {n : Nat} {r : A} {s : St} (h : s.slots n = r) (hu : r.under 0 = true) : RetQ [.t n] r .ret s := ⟨.inr rfl, by
  simp only [readRs, readR, single, h]
  exact .same hu⟩

theorem RetQ.frz {n : Nat} {r : A} {s : St} (h : FrzA 0 s.heap (s.slots n) r) : RetQ [.t n] r .ret s := ⟨.inr rfl, by
  simp only [readRs, readR, single]
  exact h⟩

/-- Rows of data, become data. -/
theorem frz_rows {k id off len : Nat} {full : Bool} {e : Elt} {h : Heap} {rows : List (List D)} (hk : k ≤ id) (hh : h[id]? = some (.cells e (rows.map fun r => r.map .d))) (hl : off + len ≤ rows.length) :
    FrzA k h (.ref id rows.length off len full) (.d (.sl e ((rows.drop off).take len))) := by
  have hlen : (rows.map fun r => r.map A.d).length = rows.length := by simp
  rw [← hlen]
  have get : ∀ i r, ((rows.drop off).take len)[i]? = some r → (rows.map fun r => r.map A.d).getD (off + i) [] = r.map .d := by
    intro i r hi
    rw [List.getElem?_take] at hi
    split at hi
    · rw [List.getElem?_drop] at hi
      rw [List.getD_eq_getElem?_getD, List.getElem?_map, hi]; rfl
    · cases hi
  refine .d (.ref hk hh ?_ (fun i r hi => ?_) (fun i r j d hi hj => ?_))
  · simp; omega
  · rw [get i r hi]; simp
  · rw [get i r hi, List.getD_eq_getElem?_getD, List.getElem?_map, hj]
    exact .d d

theorem frz_all {id : Nat} {full : Bool} {e : Elt} {h : Heap} {rows : List (List D)} (hh : h[id]? = some (.cells e (rows.map fun r => r.map .d))) :
    FrzA 0 h (.ref id rows.length 0 rows.length full) (.d (.sl e rows)) := by
  have := frz_rows (full := full) (Nat.zero_le id) hh (show 0 + rows.length ≤ rows.length by omega)
  simpa using this

def XC.r : XC → XC
  | .seq _ y => y
  | x => x

/-- What a cell of a structure is known to satisfy. -/
theorem W_aggd {Γ : Ctx} {rl : Option Nat} {n0 : Nat} {c : XC} {Q : Exit → St → Prop} {s : St} (n i : Nat) {xs : List A} {d : D} (hs : s.slots n = .agg xs) (hi : xs[i]? = some (.d d)) {p : Prop}
    (hp : ∀ (w : World) (X : Nat → Prop) (v : Value), RepD w X d v → p) (h : p → W Γ P N rl n0 c Q s) : W Γ P N rl n0 c Q s :=
  W_fact (fun z M ρ a w S => by
    have := S.slots n
    rw [hs] at this
    generalize valAt a.tmps n = v at this
    cases this with
    | agg _ _ hr =>
      have := hr i _ hi
      revert this
      generalize Array.getD _ i undef = v'
      intro this
      cases this with
      | d hx => exact hp _ _ _ hx) h
theorem W_aggint {Γ : Ctx} {rl : Option Nat} {n0 : Nat} {c : XC} {Q : Exit → St → Prop} {s : St} (n i : Nat) {xs : List A} {k : IntKind} {x : Int} (hs : s.slots n = .agg xs) (hi : xs[i]? = some (.d (.sc (.int k x))))
    (h : k.min ≤ x ∧ x ≤ k.max → W Γ P N rl n0 c Q s) : W Γ P N rl n0 c Q s :=
  W_aggd n i hs hi (fun w X v hx => by cases hx with | sc hk => exact hk) h
theorem W_aggsl {Γ : Ctx} {rl : Option Nat} {n0 : Nat} {c : XC} {Q : Exit → St → Prop} {s : St} (n i : Nat) {xs : List A} {e : Elt} {rows : List (List D)} (hs : s.slots n = .agg xs) (hi : xs[i]? = some (.d (.sl e rows)))
    (h : rows.length ≤ maxLen ∧ rows.length * e.bytes ≤ room ∧ (∀ r ∈ rows, r.length = e.sz) → W Γ P N rl n0 c Q s) : W Γ P N rl n0 c Q s :=
  W_aggd n i hs hi (fun w X v hx => hx.slFact) h
theorem W_aggstr {Γ : Ctx} {rl : Option Nat} {n0 : Nat} {c : XC} {Q : Exit → St → Prop} {s : St} (n i : Nat) {xs : List A} {x : ByteArray} (hs : s.slots n = .agg xs) (hi : xs[i]? = some (.str x))
    (h : x.size ≤ maxLen → W Γ P N rl n0 c Q s) : W Γ P N rl n0 c Q s :=
  W_aggd n i hs hi (fun w X v hx => by cases hx with | sc hk => exact hk) h
/-- Of each row of data: what its cells are known to satisfy. -/
theorem W_slrow {Γ : Ctx} {rl : Option Nat} {n0 : Nat} {c : XC} {Q : Exit → St → Prop} {s : St} (n : Nat) {e : Elt} {rows : List (List D)} (hs : s.slots n = .d (.sl e rows)) {p : Prop}
    (hp : ∀ (w : World) (X : Nat → Prop) , (∀ (i : Nat) (r : List D) (j : Nat) (d : D), rows[i]? = some r → r[j]? = some d → ∃ v, RepD w X d v) → p) (h : p → W Γ P N rl n0 c Q s) : W Γ P N rl n0 c Q s :=
  W_fact (fun z M ρ a w S => by
    have := S.slots n
    rw [hs] at this
    generalize valAt a.tmps n = v at this
    cases this with
    | d hx =>
      cases hx with
      | nil _ _ => exact hp w (Own M ρ) (fun i r j d h => by simp at h)
      | sl u _ _ _ _ _ hr => exact hp w (Own M ρ) (fun i r j d h1 h2 => ⟨_, hr i r j d h1 h2⟩)) h

end Go.Proofs.YtmagahmklndcgaaDoor.Nx
