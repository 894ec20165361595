/- The abstract machine's state stands for the model's; a step, and a region whose order is drawn. -/
import Derived.Test.YtckglkbbdbmdkaaDoorNxStep
import Derived.RangeFuncRecord
namespace Go.Proofs.YtckglkbbdbmdkaaDoor.Nx
set_option linter.unusedSimpArgs false
set_option linter.unusedVariables false
set_option linter.unnecessarySimpa false
open Go

/-- What of an activation stays: the heap's size where it began, the number of its temporaries, the tables. -/
structure Still where
  lo : Nat
  n : Nat
  Γ : Ctx

/-- The marks of loops over functions, among an activation's deferred calls. -/
inductive MarksOk (w : World) (ρ : Phys) (lo : Nat) : List Deferred → Prop
  | nil (h : lo ≤ w.heap.size) : MarksOk w ρ lo []
  | cons {D : Nat} {l : List Deferred} (hD : lo ≤ D) (hh : w.heap[D]? = some (.deferred (some []))) (hρ : ∀ id p : Nat, ρ[id]? ≠ some (some (D, p))) (hn : ∀ d ∈ l, d.target ≠ .collected D) (hl : MarksOk w ρ lo l) :
      MarksOk w ρ lo ({ target := .collected D, args := #[] } :: l)

theorem MarksOk.evo {w w' : World} {ρ ρ' : Phys} {h h' : Heap} {n0 lo : Nat} {l : List Deferred} (m : MarksOk w ρ lo l) (g : Evo n0 h ρ w h' ρ' w') : MarksOk w' ρ' lo l := by
  induction m with
  | nil h => exact .nil (Nat.le_trans h g.size)
  | @cons D l hD hh hρ hn _ ih =>
    have hlt : D < w.heap.size := (Array.getElem?_eq_some_iff.1 hh).1
    refine .cons hD (by rw [g.old D hlt hρ]; exact hh) (fun id p hp => ?_) hn ih
    rcases g.fresh id D p hp with hf | ⟨i, q, hq⟩
    · omega
    · exact hρ i q hq

theorem MarksOk.lo {w : World} {ρ : Phys} {lo : Nat} {l : List Deferred} (m : MarksOk w ρ lo l) : lo ≤ w.heap.size := by
  induction m with
  | nil h => exact h
  | cons _ _ _ _ _ ih => exact ih

theorem MarksOk.lt {w : World} {ρ : Phys} {lo : Nat} {l : List Deferred} (m : MarksOk w ρ lo l) : ∀ d ∈ l, ∀ D, d.target = .collected D → D < w.heap.size := by
  induction m with
  | nil h => intro d hd; cases hd
  | @cons D l _ hh _ _ _ ih =>
    intro d hd D' he
    rcases List.mem_cons.1 hd with rfl | hd
    · cases he; exact (Array.getElem?_eq_some_iff.1 hh).1
    · exact ih d hd D' he

variable {P : Program} {w w' : World} {M : Nat → Prop} {ρ ρ' : Phys} {h h' : Heap} {z : Still} {F : Fns}

/-- The abstract machine's slots stand for the activation's temporaries. -/
def RepS (w : World) (M : Nat → Prop) (ρ : Phys) (h : Heap) (sl : Nat → A) (vs : Array Value) : Prop := ∀ n, RepA w M ρ h (sl n) (valAt vs n)

structure Sim (z : Still) (w : World) (M : Nat → Prop) (ρ : Phys) (s : St) (a : Act) : Prop where
  bnd : ∀ b, M b → b < w.heap.size
  sim : SimH w M ρ s.heap
  slots : RepS w M ρ s.heap s.slots a.tmps
  size : a.tmps.size = z.n
  nlt : z.n ≤ tabBase
  tabs : TabsOk z.Γ w M ρ s.heap
  defers : MarksOk w ρ z.lo a.defers

theorem Sim.env {s : St} {a : Act} (S : Sim z w M ρ s a) : Env w M ρ s.heap (ev s.slots) a.eval := fun _ _ hc => cO_rep hc S.slots

theorem RepS.put {l : Nat → A} {d : Option Nat} {r : A} {v : Value} {a : Act} (hs : RepS w M ρ h l a.tmps) (hr : RepA w M ρ h r v) (hd : ∀ n, d = some n → n < a.tmps.size) (hb : ∀ n, d = some n → n < tabBase) : RepS w M ρ h (put d r l) (a.put d v).tmps := by
  cases d with
  | none => exact hs
  | some d =>
    intro n
    have hlt := hd d rfl
    have hd' := hb d rfl
    by_cases he : n = d
    · subst he
      simp only [Act.put, Nx.put, upd, if_pos, valAt, hd', Array.getD_eq_getD_getElem?, Array.getElem?_setIfInBounds, hlt, Option.getD_some]
      exact hr
    · have := hs n
      have e1 : Nx.put (some d) r l n = l n := by simp [Nx.put, upd, he]
      have e2 : valAt (a.put (some d) v).tmps n = valAt a.tmps n := by
        unfold valAt
        split
        · simp [Act.put, Array.getD_eq_getD_getElem?, Array.getElem?_setIfInBounds, Ne.symm he]
        · rfl
      rw [e1, e2]
      exact this

theorem RepS.evo {l : Nat → A} {vs : Array Value} (hs : RepS w M ρ h l vs) (g : Evo h.length h ρ w h' ρ' w') : RepS w' M ρ' h' l vs :=
  fun n => g.rep' (hs n)

theorem Sim.step {s : St} {a : Act} {d : Option Nat} {r : A} {v : Value} (S : Sim z w M ρ s a) (hd : ∀ n, d = some n → n < z.n) (hr : RepA w' M ρ' h' r v) (hS : SimH w' M ρ' h') (g : Evo s.heap.length s.heap ρ w h' ρ' w') :
    Sim z w' M ρ' ⟨put d r s.slots, h'⟩ (a.put d v) where
  bnd b hb := Nat.lt_of_lt_of_le (S.bnd b hb) g.size
  sim := hS
  slots := (S.slots.evo g).put hr (fun n hn => by rw [S.size]; exact hd n hn) (fun n hn => Nat.lt_of_lt_of_le (hd n hn) S.nlt)
  size := by cases d <;> simp [Act.put, S.size]
  nlt := S.nlt
  tabs := S.tabs.evo g
  defers := by cases d <;> exact S.defers.evo g

theorem compOp_call {op : Op} {f : XO} {xs : List XO} (hc : compOp P op = some (.call f xs)) : ∃ (g : Operand) (args : List Operand) (ts : Array TypeId), op = .call { callee := .value g, args := args.toArray, argTypes := ts } ∧ cO g = some f ∧ args.mapM cO = some xs := by
  cases op with
  | call c =>
    simp only [compOp] at hc
    obtain ⟨callee, args, ts⟩ := c
    simp only at hc
    cases callee with
    | value g =>
      simp only [compCall, Option.bind_eq_bind, Option.bind_eq_some_iff, Option.pure_def, Option.some.injEq, XOp.call.injEq] at hc
      obtain ⟨f', hf, xs', hx, rfl, rfl⟩ := hc
      exact ⟨g, args.toList, ts, by simp, hf, hx⟩
    | _ =>
      exfalso
      unfold compCall at hc
      split at hc
      · rename_i heq; cases heq
      all_goals (repeat' split at hc) <;> simp [Option.bind_eq_some_iff] at hc
  | makeFunc fn first caps =>
    exfalso
    simp only [compOp] at hc
    unfold compFn at hc
    split at hc <;> simp at hc
  | _ =>
    exfalso
    simp only [compOp] at hc
    first
      | (simp [Option.bind_eq_some_iff] at hc; done)
      | ((repeat' split at hc) <;> simp [Option.bind_eq_some_iff] at hc; done)
      | (simp only [Option.bind_eq_bind, Option.bind_eq_some_iff] at hc; obtain ⟨_, _, hc⟩ := hc; (repeat' split at hc) <;> simp [Option.bind_eq_some_iff] at hc; done)
      | skip

def XOper.plain (o : XOper) : XOper := { o with op := o.op.plain, pl := none }

def compGuard (ops : Array Oper) : Option (Nat × Bool) → Option (Option (Nat × Bool))
  | none => some none
  | some (j, b) => match (ops[j]?).bind (·.dst) with
    | some d => some (some (d, b))
    | none => none

def compOper (P : Program) (ops : Array Oper) (o : Oper) : Option XOper :=
  match compOp P o.op, compGuard ops o.guard with
  | some x, some g => some { dst := o.dst, op := x, guard := g }
  | _, _ => none

theorem plain_eq {x : XOp} (h : ∀ f args, x.plain ≠ .call f args) : x.plain = x := by
  cases x <;> first | rfl | exact absurd rfl (h _ _)

theorem exec_wp (hF : FnsOk z.Γ P F) {rl : Option Nat} {pl : Option Nat} {o : Oper} {x : XOp} {s : St} {a : Act} {K : A → Heap → Prop} {next : Act → World → Prop} {Q : Exit → Act → World → Prop} (hc : compOp P o.op = some x.plain) (S : Sim z w M ρ s a)
    (hK : exec F pl x (ev s.slots) s.heap K) (hn : ∀ r h' v w' ρ', K r h' → RepA w' M ρ' h' r v → SimH w' M ρ' h' → Evo s.heap.length s.heap ρ w h' ρ' w' → next (a.put o.dst v) w') : o.wpIn (Fw rl) 0 P a w next Q := by
  have callCase : ∀ f args, compOp P o.op = some (.call f args) → (match (generalizing := false) ev s.slots f with
      | .fn g caps => ∃ r h', FnD z.Γ P g (args.map (ev s.slots) ++ caps) s.heap r h' ∧ K r h'
      | .yld id => ∃ r h', RoundD z.Γ P id (args.map (ev s.slots)) s.heap r h' ∧ K r h'
      | _ => False) → o.wpIn (Fw rl) 0 P a w next Q := by
    intro f args hc hK
    obtain ⟨g, as, ts, ho, hf, hxs⟩ := compOp_call hc
    exact wp_call ho hf hxs S.bnd S.sim S.tabs S.env hK hn
  by_cases hx : ∃ f args, x.plain = .call f args
  · obtain ⟨f, args, hx⟩ := hx
    rw [hx] at hc
    refine callCase f args hc ?_
    cases x with
    | call f' args' =>
      cases hx
      simp only [exec] at hK
      split at hK
      · obtain ⟨h0, r, hr, hk⟩ := hK
        rename_i heq
        rw [heq]
        exact ⟨r, _, (hF.pure _ _ _ hr).join h0, hk⟩
      · exact hK.elim
    | calle f' args' =>
      cases hx
      simp only [exec] at hK
      split at hK
      · obtain ⟨r, h', hr, hk⟩ := hK
        rename_i heq
        rw [heq]
        exact ⟨r, h', hF.call _ _ _ _ _ hr, hk⟩
      · obtain ⟨r, h', hr, hk⟩ := hK
        rename_i heq
        rw [heq]
        exact ⟨r, h', hF.round _ _ _ _ _ hr, hk⟩
      · exact hK.elim
    | callr f' args' =>
      cases hx
      simp only [exec] at hK
      split at hK
      · obtain ⟨r, t, hr, hk⟩ := hK
        rename_i heq
        rw [heq]
        exact ⟨r, _, hF.call _ _ _ _ _ hr, hk⟩
      · exact hK.elim
    | _ => cases hx
  · have hx' : ∀ f args, x.plain ≠ .call f args := fun f args he => hx ⟨f, args, he⟩
    rw [plain_eq hx'] at hc hx'
    obtain ⟨r, h', hk, hd⟩ := exec_does (o := o) hc hx' S.bnd S.sim S.env (fun _ => rfl) hK
    refine wp_does (fun c he => ?_) hd fun v w' ρ' q1 q2 q3 => hn r h' v w' ρ' hk q1 q2 q3
    rw [he] at hc
    simp [compOp] at hc

theorem compOper_spec {ops : Array Oper} {o : Oper} {x : XOper} (hc : compOper P ops o = some x.plain) : o.dst = x.dst ∧ compOp P o.op = some x.op.plain ∧ compGuard ops o.guard = some x.guard := by
  unfold compOper at hc
  split at hc
  · rename_i h1 h2
    injection hc with hc
    have e1 := congrArg XOper.dst hc
    have e2 := congrArg XOper.op hc
    have e3 := congrArg XOper.guard hc
    simp only [XOper.plain] at e1 e2 e3
    subst e2 e3
    exact ⟨e1, h1, h2⟩
  · cases hc

/-- The model asks for an operation when the abstract machine does. -/
theorem live_wanted {ops : Array Oper} {o : Oper} {x : XOper} {s : St} {a : Act} (S : Sim z w M ρ s a) (hg : compGuard ops o.guard = some x.guard) {op : XOp} (hl : x.live s.slots = some op) :
    (Region.wanted o (yielded ops a.tmps) = true ∧ op = x.op) ∨ (Region.wanted o (yielded ops a.tmps) = false ∧ op = .mov (.k undefA)) := by
  cases hgo : o.guard with
  | none =>
    rw [hgo] at hg
    simp only [compGuard, Option.some.injEq] at hg
    simp only [XOper.live, ← hg, Option.some.injEq] at hl
    exact .inl ⟨by simp [Region.wanted, hgo], hl.symm⟩
  | some jb =>
    obtain ⟨j, b⟩ := jb
    rw [hgo] at hg
    simp only [compGuard] at hg
    split at hg
    · rename_i d hd
      simp only [Option.some.injEq] at hg
      simp only [XOper.live, ← hg] at hl
      have hw : Region.wanted o (yielded ops a.tmps) = (yielded ops a.tmps j == some b) := by simp [Region.wanted, hgo]
      rw [hw]
      have hy : yielded ops a.tmps j = match a.tmps[d]? with
          | some (.bool b) => some b
          | _ => none := by
        simp only [yielded, hd, Option.bind_some]
        cases a.tmps[d]? with
        | none => rfl
        | some v => cases v <;> rfl
      rw [hy]
      have get : ∀ {y : A}, s.slots d = y → (∀ p, ¬ RepA w M ρ s.heap y (.pointer p)) → RepA w M ρ s.heap y ((a.tmps[d]?).getD undef) := by
        intro y hy hp
        subst hy
        have := S.slots d
        unfold valAt at this
        split at this
        · rwa [Array.getD_eq_getD_getElem?] at this
        · exact absurd this (hp _)
      split at hl
      · rename_i c heq
        have hr := get heq (fun p hp => by cases hp with | d hx => cases hx)
        cases hv : a.tmps[d]? with
        | none => rw [hv] at hr; cases hr with
          | d hx => cases hx
        | some v =>
          rw [hv] at hr
          cases hr with
          | d hx => cases hx with
            | sc _ =>
            split at hl
            · rename_i hcb; subst hcb; injection hl with hl; exact .inl ⟨by simp, hl.symm⟩
            · rename_i hcb; injection hl with hl; exact .inr ⟨by simpa using hcb, hl.symm⟩
      · rename_i heq
        have hr := get heq (fun p hp => by cases hp)
        injection hl with hl
        cases hv : a.tmps[d]? with
        | none => exact .inr ⟨by simp, hl.symm⟩
        | some v =>
          rw [hv] at hr
          cases hr with
          | tup => exact .inr ⟨by simp, hl.symm⟩
      · cases hl
    · cases hg

theorem step_sound (hF : FnsOk z.Γ P F) {rl : Option Nat} {ops : Array Oper} {i base : Nat} {o : Oper} {x : XOper} {s : St} {a : Act} {K : St → Prop} {next : Act → World → Prop} {Q : Exit → Act → World → Prop}
    (ho : ops[i]? = some o) (hc : compOper P ops o = some x.plain) (hd : ∀ n, x.dst = some n → n < z.n) (S : Sim z w M ρ s a) (hK : stepX F base x s K)
    (hn : ∀ s' ρ' a' w', K s' → Sim z w' M ρ' s' a' → Evo s.heap.length s.heap ρ w s'.heap ρ' w' → next a' w') : wpOpIn (Fw rl) 0 P ops Q i next a w := by
  obtain ⟨h1, h2, h3⟩ := compOper_spec hc
  unfold stepX at hK
  split at hK
  · rename_i op hl
    unfold wpOpIn
    simp only [ho]
    rcases live_wanted S h3 hl with ⟨hw, rfl⟩ | ⟨hw, rfl⟩
    · rw [if_pos hw]
      refine exec_wp hF h2 S hK fun r h' v w' ρ' hk q1 q2 q3 => hn _ ρ' _ w' hk ?_ q3
      rw [h1]
      exact S.step hd q1 q2 q3
    · rw [if_neg (by rw [hw]; simp)]
      refine ⟨fun _ _ => trivial, hn _ ρ _ w hK ?_ (.refl _ _ _ _ (Nat.le_refl _))⟩
      rw [h1]
      exact S.step hd (w' := w) (.tup rfl fun j x hj => by simp at hj) S.sim (.refl _ _ _ _ (Nat.le_refl _))
  · exact hK.elim

end Go.Proofs.YtckglkbbdbmdkaaDoor.Nx
