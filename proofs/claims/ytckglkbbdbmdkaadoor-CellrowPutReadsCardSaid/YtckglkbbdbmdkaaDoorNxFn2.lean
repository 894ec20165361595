/- A function's contract out of its walk. -/
import Derived.Test.YtckglkbbdbmdkaaDoorNxFn
namespace Go.Proofs.YtckglkbbdbmdkaaDoor.Nx
set_option linter.unusedSimpArgs false
set_option linter.unusedVariables false
set_option linter.unnecessarySimpa false
open Go

variable {Γ : Ctx} {P : Program} {w w' : World} {M : Nat → Prop} {ρ ρ' : Phys} {h h' : Heap} {N n0 : Nat}

structure FnIs (P : Program) (f : FuncId) (N : Nat) (res : List XR) (x : XC) : Prop where
  ex : ∃ fn code, P.funcs[f]? = some fn ∧ (fn.name == "runtime.NumGoroutine") = false ∧ fn.body = some code ∧ fn.ntmps = N ∧ N ≤ tabBase ∧ fn.results.toList.mapM (compR P) = some res ∧ CodeIs P N code x

def argS : Nat → List A → List (Nat × A)
  | _, [] => []
  | i, x :: l => (i, x) :: argS (i + 1) l

theorem argS_mem : ∀ {l : List A} {i n : Nat} {x : A}, (n, x) ∈ argS i l → i ≤ n ∧ l[n - i]? = some x
  | [], i, n, x, h => by cases h
  | y :: l, i, n, x, h => by
    simp only [argS, List.mem_cons, Prod.mk.injEq] at h
    rcases h with ⟨rfl, rfl⟩ | h
    · simp
    · obtain ⟨h1, h2⟩ := argS_mem h
      refine ⟨by omega, ?_⟩
      have : n - i = (n - (i + 1)) + 1 := by omega
      rw [this, List.getElem?_cons_succ]
      exact h2

theorem results_run {z : Still} {s : St} {a : Act} (S : Sim z w M ρ s a) {fn : Func} {res : List XR} (hr : fn.results.toList.mapM (compR P) = some res) {K : List A → Prop} (hK : readRs s res K) :
    ∃ rs v, K rs ∧ (results fn a.tmps).run P w = .ok v w ∧ RepA w M ρ s.heap (single rs) v := by
  obtain ⟨rs, vs, k1, k2, k3, k4⟩ := readRs_run S hr hK
  have hrun : (results fn a.tmps).run P w = .ok (if h : vs.toArray.size = 1 then vs.toArray[0] else .tuple vs.toArray) w := by
    have e : results fn a.tmps = (do let vs ← fn.results.mapM (runR P a.tmps); pure (if h : vs.size = 1 then vs[0] else .tuple vs)) := rfl
    rw [e]
    have : (fn.results.mapM (runR P a.tmps) : Sem (Array Value)).run P w = .ok vs.toArray w := by
      rw [Array.mapM_eq_mapM_toList]
      simp [Sem.run_map, k2]
    rw [Sem.run_bind, this]
    rfl
  refine ⟨rs, _, k1, hrun, ?_⟩
  match rs, vs, k3, k4 with
  | [r], [v], _, k4 => simpa [single] using k4 0 r rfl
  | [], [], _, _ => simp only [single]; exact .tup rfl fun j x hj => by simp at hj
  | r :: r' :: rs, v :: v' :: vs, k3, k4 =>
    have hne : ¬ (v :: v' :: vs).toArray.size = 1 := by simp
    rw [dif_neg hne]
    exact .tup (by simpa using k3.symm) fun j x hj => by
      have := k4 j x hj
      simpa [Array.getD_eq_getD_getElem?] using this

/-- Where a walk of a function's code must end. -/
def RetQ (res : List XR) (r : A) : Exit → St → Prop := fun e s => (e = .normal ∨ e = .ret) ∧ readRs s res fun l => FrzA 0 s.heap (single l) r

theorem look_app : ∀ (l l' : List (Nat × A)) (n : Nat), look l n = .any ∨ look l n = look (l ++ l') n
  | [], l', n => .inl rfl
  | (k, x) :: l, l', n => by
    simp only [look, List.cons_append]
    by_cases h : n = k
    · simp [h]
    · simp only [if_neg h]; exact look_app l l' n

/-- The slots of the tables. -/
def tabS (Γ : Tabs) : List (Nat × A) := Γ.map fun p => (tabBase + p.1, .iptr p.2)

/-! ### The marks are come to -/
/-- Some marks' blocks are shut; nothing else turns. -/
structure Shut (lo : Nat) (ρ : Phys) (w w2 : World) : Prop where
  os : w2.os = w.os
  tape : w2.tape = w.tape
  output : w2.output = w.output
  size : w2.heap.size = w.heap.size
  low : ∀ b, b < lo → w2.heap[b]? = w.heap[b]?
  own : ∀ b id p : Nat, ρ[id]? = some (some (b, p)) → w2.heap[b]? = w.heap[b]?
  cell : ∀ a u, w.cell? a = some u → w2.cell? a = some u

theorem Shut.refl {lo : Nat} : Shut lo ρ w w := ⟨rfl, rfl, rfl, rfl, fun _ _ => rfl, fun _ _ _ _ => rfl, fun _ _ h => h⟩

theorem Shut.head {lo D : Nat} {w2 : World} (hD : lo ≤ D) (hh : w.heap[D]? = some (.deferred (some []))) (hρ : ∀ id p : Nat, ρ[id]? ≠ some (some (D, p))) (c : Shut lo ρ (w.putObj D (.deferred none)) w2) : Shut lo ρ w w2 := by
  refine ⟨c.os, c.tape, c.output, by rw [c.size]; simp, fun b hb => ?_, fun b id p hp => ?_, fun a u hc => c.cell a u ?_⟩
  · rw [c.low b hb]; exact World.putObj_heap_other (by omega)
  · rw [c.own b id p hp]; exact World.putObj_heap_other (fun e => hρ id p (e ▸ hp))
  · have hne : a.block ≠ D := by
      intro e
      unfold World.cell? at hc
      rw [e, hh] at hc
      simp at hc
    rw [World.cell?_of_block (World.putObj_heap_other hne)]
    exact hc

theorem MarksOk.put {lo D : Nat} {l : List Deferred} (m : MarksOk w ρ lo l) (hn : ∀ d ∈ l, d.target ≠ .collected D) : MarksOk (w.putObj D (.deferred none)) ρ lo l := by
  induction m with
  | nil h => exact .nil (by simpa using h)
  | @cons D' l hD hh hρ hn' _ ih =>
    have hne : D' ≠ D := fun e => hn _ (List.mem_cons_self ..) (by rw [e])
    exact .cons hD (by rw [World.putObj_heap_other hne]; exact hh) hρ hn' (ih fun d hd => hn d (List.mem_cons_of_mem _ hd))

theorem leaves_marks {F : Fence} {n lo : Nat} {fn : Func} {tmps : Array Value} {R : Ending → World → Prop} : ∀ {l : List Deferred} {w : World}, MarksOk w ρ lo l → (∀ w2, Shut lo ρ w w2 → LeavesIn F n P fn tmps R [] .returning w2) → LeavesInM F n P fn tmps R l .returning w
  | [], w, _, h => h w .refl
  | d :: l, w, m, h => by
    cases m with
    | @cons D _ hD hh hρ hn hl =>
      refine ⟨fun e => (by cases e), .inl ⟨D, _, rfl, run_takeDeferred hh, leaves_marks (hl.put hn) fun w2 c => h w2 (.head hD hh hρ c)⟩⟩

theorem RepA.shut {lo : Nat} {w2 : World} (c : Shut lo ρ w w2) {x : A} {v : Value} (hr : RepA w M ρ h x v) : RepA w2 M ρ h x v :=
  hr.move (n0 := h.length) (fun a u hn hc => ⟨c.cell a u hc, hn⟩) (fun _ _ _ hb => .refl hb) hr.under

theorem SimH.shut {lo : Nat} {w2 : World} (c : Shut lo ρ w w2) (S : SimH w M ρ h) : SimH w2 M ρ h where
  len := S.len
  cells id e rows hB := by
    obtain ⟨q1, q2, q3, q4, q5⟩ := S.cells id e rows hB
    refine ⟨q1, q2, q3, q4, ?_⟩
    rcases q5 with q5 | ⟨b, p, cs, t, k1, k2, k3, k4, k5, k6⟩
    · exact .inl q5
    · refine .inr ⟨b, p, cs, t, k1, k2, (c.own b id p k1).trans k3, k4, k5, fun i r j x hi hj => ?_⟩
      obtain ⟨v, r1, r2, r3⟩ := k6 i r j x hi hj
      exact ⟨v, r1, r2, r3.shut c⟩
  obj id o hB := by
    obtain ⟨b, p, k1, k2, k3, k4⟩ := S.obj id o hB
    exact ⟨b, p, k1, k2, (c.own b id p k1).trans k3, k4⟩
  res := S.res
  inj := S.inj

theorem Evo.shut {n0 lo : Nat} {h1 : Heap} {ρ1 : Phys} {w1 w2 : World} (g : Evo n0 h1 ρ1 w1 h ρ w) (c : Shut lo ρ w w2) (hlo : w1.heap.size ≤ lo) : Evo n0 h1 ρ1 w1 h ρ w2 :=
  ⟨c.os.trans g.os, c.tape.trans g.tape, c.output.trans g.output, by rw [c.size]; exact g.size, fun b hb hn => (c.low b (by omega)).trans (g.old b hb hn), fun id b p hp => g.fresh id b p hp, g.len, g.keep⟩

/-- A function, from its walk: from whatever own heap. -/
theorem calls_core {f : FuncId} {res : List XR} {x : XC} {args : List A} {Q : A → St → Prop} (H : FnIs P f N res x) (hn : args.length ≤ N) (h : Heap) (n0 : Nat) (hb0 : Γ.b ≤ n0) (hn0 : n0 ≤ h.length)
    (hW : W Γ P N none n0 x (fun e s => (e = .normal ∨ e = .ret) ∧ readRs s res fun l => Q (single l) s) ⟨look (argS 0 args ++ tabS Γ.t), h⟩)
    (M : Nat → Prop) (w : World) (ρ : Phys) (vs : Array Value) (bnd : ∀ b, M b → b < w.heap.size) (S0 : SimH w M ρ h) (T : TabsOk Γ w M ρ h) (hargs : RepAs w M ρ h args vs) :
    Calls P f vs w fun e w' => ∃ r s' v ρ', Q r s' ∧ e = .returned v ∧ RepA w' M ρ' s'.heap r v ∧ SimH w' M ρ' s'.heap ∧ Evo n0 h ρ w s'.heap ρ' w' := by
  obtain ⟨fn, code, hf, hname, hb, hN, hNt, hres, hc⟩ := H.ex
  refine (callsIn_wide (n := 0)).1 (callsIn_of_wp_marks hf hb trivial ?_)
  have S : Sim ⟨w.heap.size, N, Γ⟩ w M ρ ⟨look (argS 0 args ++ tabS Γ.t), h⟩ { tmps := vs ++ Array.replicate (fn.ntmps - vs.size) undef, defers := [] } := by
    refine ⟨bnd, S0, fun n => ?_, ?_, hNt, T, .nil (Nat.le_refl _)⟩
    · dsimp only
      rcases look_mem (l := argS 0 args ++ tabS Γ.t) (n := n) with hh | hh
      · rw [hh]; exact .any
      · generalize look (argS 0 args ++ tabS Γ.t) n = y at hh
        rcases List.mem_append.1 hh with hh | hh
        · obtain ⟨_, hh⟩ := argS_mem hh
          have := hargs.2 n _ hh
          have hl := (List.getElem?_eq_some_iff.1 hh).1
          have hlt : n < vs.size := by rw [hargs.1]; exact hl
          rw [valAt, if_pos (by simp only [Nat.sub_zero] at hl; omega)]
          rw [Array.getD_eq_getD_getElem?, Array.getElem?_append_left hlt, ← Array.getD_eq_getD_getElem?]
          exact this
        · simp only [tabS, List.mem_map, Prod.mk.injEq] at hh
          obtain ⟨⟨g, cs⟩, hg, rfl, rfl⟩ := hh
          have hn : ¬ tabBase + g < tabBase := by omega
          simp only [valAt, if_neg hn, Nat.add_sub_cancel_left]
          exact T.t g cs hg
    · simp [hargs.1, hN]; omega
  refine wpIn_mono (hW code hc ⟨w.heap.size, N, Γ⟩ M ρ _ w rfl ⟨hb0, hn0⟩ S) fun e a' w' hp => ?_
  obtain ⟨s', ρ', ⟨he, hread⟩, S', g⟩ := hp
  have fin : LeavesInM Fence.wide 0 P fn a'.tmps (fun e w' => ∃ r s' v ρ', Q r s' ∧ e = .returned v ∧ RepA w' M ρ' s'.heap r v ∧ SimH w' M ρ' s'.heap ∧ Evo n0 h ρ w s'.heap ρ' w') a'.defers .returning w' := by
    refine leaves_marks S'.defers fun w2 c => ?_
    have S2 : Sim ⟨w.heap.size, N, Γ⟩ w2 M ρ' s' { a' with defers := [] } := ⟨fun b hb => by rw [c.size]; exact S'.bnd b hb, S'.sim.shut c, fun n => (S'.slots n).shut c, S'.size, S'.nlt, ⟨fun u cs hu => (S'.tabs.t u cs hu).shut c, fun a v hv => ⟨(S'.tabs.env a v hv).1, (S'.tabs.env a v hv).2.shut c⟩⟩, .nil (by rw [c.size]; exact S'.defers.lo)⟩
    obtain ⟨rs, v, k1, k2, k3⟩ := results_run S2 hres hread
    exact ⟨v, k2, single rs, s', v, ρ', k1, rfl, k3, S2.sim, g.shut c (Nat.le_refl _)⟩
  rcases he with rfl | rfl
  · exact fin
  · exact fin

theorem FnIs.enters {f : FuncId} {res : List XR} {x : XC} (H : FnIs P f N res x) : Enters P f := by
  obtain ⟨fn, code, hf, hname, hb, _⟩ := H.ex
  exact ⟨fn, hf, hname, by rw [hb]; rfl⟩

/-- Tables alone. -/
abbrev Tabs.ctx (t : Tabs) : Ctx := ⟨t, fun _ _ => False, 0⟩

theorem FnP.of_WT {Γ : Tabs} {f : FuncId} {res : List XR} {x : XC} {args : List A} {r : A} (H : FnIs P f N res x) (hn : args.length ≤ N) (hW : W Γ.ctx P N none 0 x (RetQ res r) ⟨look (argS 0 args ++ tabS Γ), []⟩) : FnP Γ P f args r := by
  refine ⟨H.enters, fun M w vs bnd T hargs => ?_⟩
  refine (calls_core (Γ := Γ.ctx) (Q := fun r0 s => FrzA 0 s.heap r0 r) H hn [] 0 (Nat.le_refl _) (Nat.zero_le _) hW M w [] vs bnd ⟨rfl, fun id e rows hh => by simp at hh, fun id o hh => by simp at hh, fun id hh => by simp at hh, fun i j b p q hi => by simp at hi⟩ (.of_t T) hargs).mono fun e w' hp => ?_
  obtain ⟨r0, s', v, ρ', k1, he, k3, k4, g⟩ := hp
  have hrep := k1.rep k4 (Nat.zero_le _) k3
  simp only [List.take_zero] at hrep
  have g' : Evo 0 [] [] w [] [] w' := by
    have := g.trans (Evo.take (n0 := 0) (k := 0) (h := s'.heap) (ρ := ρ') (w := w') (Nat.le_refl _) (Nat.zero_le _))
    simpa using this
  exact ⟨v, he, hrep, g'⟩

/-- For a function that reads no table. -/
theorem W_noTabs {res : XC} {Q : Exit → St → Prop} {n0 : Nat} {rl : Option Nat} {args : List A} {h : Heap} (hW : W Γ P N rl n0 res Q ⟨look (argS 0 args), h⟩) : W Γ P N rl n0 res Q ⟨look (argS 0 args ++ tabS Γ.t), h⟩ :=
  W_co (s := ⟨look (argS 0 args ++ tabS Γ.t), h⟩) (s' := ⟨look (argS 0 args), h⟩) (fun z M ρ a w hn S => ⟨ρ, ⟨S.bnd, S.sim, fun n => by
    have := S.slots n
    dsimp only at this ⊢
    rcases look_app (argS 0 args) (tabS Γ.t) n with h | h
    · rw [h]; exact .any
    · rw [h]; exact this, S.size, S.nlt, S.tabs, S.defers⟩, .refl _ _ _ _ hn.2⟩) hW

theorem FnP.of_W {Γ : Tabs} {f : FuncId} {res : List XR} {x : XC} {args : List A} {r : A} (H : FnIs P f N res x) (hn : args.length ≤ N) (hW : W Γ.ctx P N none 0 x (RetQ res r) ⟨look (argS 0 args), []⟩) : FnP Γ P f args r :=
  .of_WT H hn (W_noTabs hW)

/-- Where a walk over the caller's own heap must end. -/
def RetD (res : List XR) (r : A) (h' : Heap) : Exit → St → Prop := fun e s => (e = .normal ∨ e = .ret) ∧ readRs s res fun l => single l = r ∧ s.heap = h'

theorem FnD.of_WT {f : FuncId} {res : List XR} {x : XC} {args : List A} {h h' : Heap} {r : A} (H : FnIs P f N res x) (hn : args.length ≤ N) (hb : Γ.b ≤ h.length) (hW : W Γ P N none h.length x (RetD res r h') ⟨look (argS 0 args ++ tabS Γ.t), h⟩) : FnD Γ P f args h r h' := by
  refine ⟨H.enters, fun M w ρ vs bnd S T hargs => ?_⟩
  refine (calls_core (Q := fun r0 s => r0 = r ∧ s.heap = h') H hn h h.length hb (Nat.le_refl _) hW M w ρ vs bnd S T hargs).mono fun e w' hp => ?_
  obtain ⟨r0, s', v, ρ', ⟨rfl, rfl⟩, he, k3, k4, g⟩ := hp
  exact ⟨v, ρ', he, k3, k4, g⟩

theorem FnD.of_W {f : FuncId} {res : List XR} {x : XC} {args : List A} {h h' : Heap} {r : A} (H : FnIs P f N res x) (hn : args.length ≤ N) (hb : Γ.b ≤ h.length) (hW : W Γ P N none h.length x (RetD res r h') ⟨look (argS 0 args), h⟩) : FnD Γ P f args h r h' :=
  .of_WT H hn hb (W_noTabs hW)

end Go.Proofs.YtckglkbbdbmdkaaDoor.Nx
