/- What a state's values are known to satisfy. -/
import Derived.Test.YtmagahmklndcgaaDoorNxWalk2
import Derived.IntWalk
namespace Go.Proofs.YtmagahmklndcgaaDoor.Nx
set_option linter.unusedSimpArgs false
set_option linter.unusedVariables false
set_option linter.unnecessarySimpa false
open Go

variable {Γ : Ctx} {P : Program} {N : Nat} {rl : Option Nat} {n0 : Nat}

theorem W_fact {c : XC} {Q : Exit → St → Prop} {s : St} {p : Prop} (hp : ∀ (z : Still) (M : Nat → Prop) (ρ : Phys) (a : Act) (w : World), Sim z w M ρ s a → p) (h : p → W Γ P N rl n0 c Q s) : W Γ P N rl n0 c Q s :=
  fun code hc z M ρ a w hz hn S => h (hp z M ρ a w S) code hc z M ρ a w hz hn S

theorem RepD.slFact {w : World} {X : Nat → Prop} {e : Elt} {rows : List (List D)} {v : Value} (h : RepD w X (.sl e rows) v) : rows.length ≤ maxLen ∧ rows.length * e.bytes ≤ room ∧ ∀ r ∈ rows, r.length = e.sz := by
  cases h with
  | nil _ _ => exact ⟨Nat.zero_le _, by simp, by simp⟩
  | sl u hl hm hb hsz _ _ => exact ⟨by omega, hb, hsz⟩

theorem W_sl {c : XC} {Q : Exit → St → Prop} {s : St} (n : Nat) {e : Elt} {rows : List (List D)} (hs : s.slots n = .d (.sl e rows)) (h : rows.length ≤ maxLen ∧ rows.length * e.bytes ≤ room ∧ (∀ r ∈ rows, r.length = e.sz) → W Γ P N rl n0 c Q s) : W Γ P N rl n0 c Q s :=
  W_fact (fun z M ρ a w S => by
    have := S.slots n
    rw [hs] at this
    cases this with
    | d hx => exact hx.slFact) h

theorem W_int {c : XC} {Q : Exit → St → Prop} {s : St} (n : Nat) {k : IntKind} {x : Int} (hs : s.slots n = .d (.sc (.int k x))) (h : k.min ≤ x ∧ x ≤ k.max → W Γ P N rl n0 c Q s) : W Γ P N rl n0 c Q s :=
  W_fact (fun z M ρ a w S => by
    have := S.slots n
    rw [hs] at this
    generalize valAt a.tmps n = v at this
    cases this with
    | d hx => cases hx with
      | sc hk => exact hk) h

theorem W_str {c : XC} {Q : Exit → St → Prop} {s : St} (n : Nat) {x : ByteArray} (hs : s.slots n = .str x) (h : x.size ≤ maxLen → W Γ P N rl n0 c Q s) : W Γ P N rl n0 c Q s :=
  W_fact (fun z M ρ a w S => by
    have := S.slots n
    rw [hs] at this
    generalize valAt a.tmps n = v at this
    cases this with
    | d hx => cases hx with
      | sc hk => exact hk) h


/-- Data may be taken for nil, or for what is not nil. -/
theorem W_nil {c : XC} {Q : Exit → St → Prop} {s : St} (n : Nat) {e : Elt} {rows : List (List D)} (hs : s.slots n = .d (.sl e rows)) (h0 : rows = [] → W Γ P N rl n0 c Q ⟨upd s.slots n .nil, s.heap⟩)
    (h1 : W Γ P N rl n0 c Q ⟨upd s.slots n (.nn e rows), s.heap⟩) : W Γ P N rl n0 c Q s := fun code hc z M ρ a w hz hn S => by
  have hx := S.slots n
  rw [hs] at hx
  have hx' := d_inv hx
  obtain ⟨b, cap, hv, _⟩ := sl_inv hx'
  have other : ∀ y, RepA w M ρ s.heap y (valAt a.tmps n) → Sim z w M ρ ⟨upd s.slots n y, s.heap⟩ a := fun y hy =>
    ⟨S.bnd, S.sim, fun m => by
      dsimp only [upd]
      by_cases hm : m = n
      · rw [if_pos hm, hm]; exact hy
      · rw [if_neg hm]; exact S.slots m, S.size, S.nlt, S.tabs, S.defers⟩
  cases b with
  | none =>
    rw [hv] at hx'
    obtain ⟨r0, r1, r2⟩ := nil_cap hx'
    rw [r1, r2] at hv
    exact wpIn_mono (h0 r0 code hc z M ρ a w hz hn (other _ (by rw [hv]; exact .nil))) fun _ _ _ hp => hp
  | some b =>
    exact wpIn_mono (h1 code hc z M ρ a w hz hn (other _ (by rw [hv]; rw [hv] at hx'; exact .nn hx'))) fun _ _ _ hp => hp

end Go.Proofs.YtmagahmklndcgaaDoor.Nx
