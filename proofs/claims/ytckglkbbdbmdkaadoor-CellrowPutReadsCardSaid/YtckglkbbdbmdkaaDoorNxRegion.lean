/- A region, in the text's order or in a drawn one. -/
import Derived.Test.YtckglkbbdbmdkaaDoorNxSim
namespace Go.Proofs.YtckglkbbdbmdkaaDoor.Nx
set_option linter.unusedSimpArgs false
set_option linter.unusedVariables false
set_option linter.unnecessarySimpa false
open Go

variable {P : Program} {w w' : World} {M : Nat → Prop} {ρ ρ' : Phys} {h h' : Heap} {z : Still} {F : Fns}

def compOpers (P : Program) (ops : Array Oper) : Option (List XOper) := ops.toList.mapM (compOper P ops)

/-- The model's operations are those of the abstract machine. -/
structure OpsAre (P : Program) (n : Nat) (ops : Array Oper) (xs : List XOper) : Prop where
  dst : ∀ (i : Nat) (x : XOper) (m : Nat), xs[i]? = some x → x.dst = some m → m < n
  len : xs.length = ops.size
  get : ∀ (i : Nat) (o : Oper) (x : XOper), ops[i]? = some o → xs[i]? = some x → compOper P ops o = some x.plain

theorem OpsAre.of {ops : Array Oper} {xs : List XOper} {n : Nat} (hc : compOpers P ops = some (xs.map XOper.plain)) (hd : xs.all (fun x => x.dst.all (decide <| · < n)) = true) : OpsAre P n ops xs := by
  obtain ⟨h1, h2⟩ := mapM_spec hc
  refine ⟨fun i x m hx hm => ?_, by simpa using h1, fun i o x ho hx => ?_⟩
  · have := List.all_eq_true.1 hd x (List.mem_iff_getElem?.2 ⟨i, hx⟩)
    rw [hm] at this
    simpa using this
  obtain ⟨y, hy, hf⟩ := h2 i o (by simpa using ho)
  rw [List.getElem?_map, hx] at hy
  cases hy
  exact hf

theorem ops_sound (hF : FnsOk z.Γ P F) {rl : Option Nat} {ops : Array Oper} {xs : List XOper} {base : Nat} {K : St → Prop} {Q : Exit → Act → World → Prop} (H : OpsAre P z.n ops xs) : ∀ (l : List Nat) (s : St) (ρ : Phys) (a : Act) (w : World),
    Sim z w M ρ s a → runX F base (l.filterMap (xs[·]?)) s K → (∀ s' ρ' a' w', K s' → Sim z w' M ρ' s' a' → Evo s.heap.length s.heap ρ w s'.heap ρ' w' → Q .normal a' w') →
    wpOpsIn (Fw rl) 0 P ops Q l a w := by
  intro l
  induction l with
  | nil => intro s ρ a w S hK hn; exact hn s ρ a w hK S (.refl _ _ _ _ (Nat.le_refl _))
  | cons i l ih =>
    intro s ρ a w S hK hn
    rw [wpOpsIn_cons]
    cases hx : xs[i]? with
    | none =>
      have ho : ops[i]? = none := by
        rw [List.getElem?_eq_none_iff, H.len] at hx
        exact Array.getElem?_eq_none hx
      simp only [List.filterMap_cons, hx] at hK
      unfold wpOpIn
      rw [ho]
      exact ih s ρ a w S hK hn
    | some x =>
      have hlt : i < ops.size := by rw [← H.len]; exact (List.getElem?_eq_some_iff.1 hx).1
      have ho : ops[i]? = some ops[i] := Array.getElem?_eq_getElem hlt
      simp only [List.filterMap_cons, hx, runX] at hK
      refine step_sound hF ho (H.get i _ x ho hx) (fun m hm => H.dst i x m hx hm) S hK fun s' ρ' a' w' hk S' g => ?_
      exact ih s' ρ' a' w' S' hk fun s'' ρ'' a'' w'' hk' S'' g' => hn s'' ρ'' a'' w'' hk' S'' (g.trans (g'.mono g.len))

/-! ### Drawn -/
def XOper.reads (o : XOper) : List Nat := o.op.slots ++ (match o.guard with | some (g, _) => [g] | none => [])

def optMem (d : Option Nat) (l : List Nat) : Bool :=
  match d with
  | some d => l.contains d
  | none => false

/-- Two operations that may change places. -/
def indep (sep : Bool) (p q : XOper) : Bool :=
  classOk sep p.op q.op && !optMem q.dst p.reads && !optMem p.dst q.reads && !optMem p.dst q.dst.toList && (!p.op.pushes || p.pl.isSome) && (!q.op.pushes || q.pl.isSome) && (!(p.op.pushes && q.op.pushes) || p.pl != q.pl)

structure Indep (sep : Bool) (p q : XOper) : Prop where
  cls : classOk sep p.op q.op = true
  qp : ∀ n, q.dst = some n → n ∉ p.reads
  pq : ∀ n, p.dst = some n → n ∉ q.reads
  dd : ∀ n, p.dst = some n → q.dst ≠ some n
  plp : p.op.pushes = true → p.pl.isSome = true
  plq : q.op.pushes = true → q.pl.isSome = true
  pls : p.op.pushes = true → q.op.pushes = true → p.pl ≠ q.pl

theorem optMem_false {d : Option Nat} {l : List Nat} (hh : optMem d l = false) : ∀ n, d = some n → n ∉ l := by
  intro n hn hm
  subst hn
  simp [optMem, hm] at hh

theorem Indep.of {sep : Bool} {p q : XOper} (hi : indep sep p q = true) : Indep sep p q := by
  simp only [indep, Bool.and_eq_true, Bool.not_eq_true'] at hi
  obtain ⟨⟨⟨⟨⟨⟨h1, h2⟩, h3⟩, h4⟩, h5⟩, h6⟩, h7⟩ := hi
  refine ⟨h1, optMem_false h2, optMem_false h3, fun n hn he => optMem_false h4 n hn (by simp [he]), fun hp => ?_, fun hp => ?_, fun hp hq he => ?_⟩
  · simpa [hp] using h5
  · simpa [hp] using h6
  · simp [hp, hq, he] at h7

def Clear (q : XOper) (s : St) : Prop := ∀ x ∈ q.op.hx, ∀ id, (ev s.slots x).touch = some id → ∃ B, s.heap[id]? = some B ∧ B ≠ .res

theorem live_put {o : XOper} {d : Option Nat} {r : A} {l : Nat → A} (hd : ∀ n, d = some n → n ∉ o.reads) : o.live (put d r l) = o.live l := by
  unfold XOper.live
  split
  · rfl
  · rename_i g b hg
    have : put d r l g = l g := by
      have := ev_put (d := d) (r := r) (l := l) (x := .t g) (fun n hn hm => hd n hn (by simp only [XO.slots, List.mem_singleton] at hm; subst hm; simp [XOper.reads, hg]))
      exact this
    rw [this]

theorem live_cases {o : XOper} {l : Nat → A} {op : XOp} (hl : o.live l = some op) : op = o.op ∨ op = .mov (.k undefA) := by
  unfold XOper.live at hl
  split at hl
  · injection hl with hl; exact .inl hl.symm
  · split at hl
    · split at hl
      · injection hl with hl; exact .inl hl.symm
      · injection hl with hl; exact .inr hl.symm
    · injection hl with hl; exact .inr hl.symm
    · cases hl

theorem stepX_mono {base : Nat} {o : XOper} {s : St} {K K' : St → Prop} (hk : ∀ s', K s' → K' s') (hK : stepX F base o s K) : stepX F base o s K' := by
  unfold stepX at *
  split at hK
  · exact exec_mono (fun _ _ hr => hk _ hr) hK
  · exact hK.elim

theorem runX_mono {base : Nat} : ∀ {l : List XOper} {s : St} {K K' : St → Prop}, (∀ s', K s' → K' s') → runX F base l s K → runX F base l s K'
  | [], s, K, K', hk, h => hk _ h
  | o :: l, s, K, K', hk, h => stepX_mono (fun s' hs => runX_mono hk hs) h

theorem ev_slots {p : XOper} {x : XO} {n : Nat} (hx : x ∈ p.op.hx) (hn : n ∈ x.slots) : n ∈ p.reads := by
  refine List.mem_append_left _ ?_
  generalize p.op = op at *
  cases op <;> simp [XOp.hx] at hx <;> (try subst hx) <;> simp [XOp.slots, hn]
  · rcases hx with rfl | rfl <;> simp [hn]
  · rcases hx with rfl | rfl <;> simp [hn]

theorem stepX_clear {base : Nat} {p q : XOper} {s : St} {K : St → Prop} {sep : Bool} (hi : Indep sep p q) (hc : Clear q s) (hK : stepX F base p s K) : stepX F base p s fun s' => Clear q s' ∧ K s' := by
  unfold stepX at *
  split at hK
  · rename_i op hl
    obtain ⟨r, h', hk, eff, hrun⟩ := exec_eff hK
    refine exec_mono (fun a b hab => ⟨?_, by rw [hab.1, hab.2]; exact hk⟩) hrun
    obtain ⟨rfl, rfl⟩ := hab
    intro x hx id hid
    dsimp only at hid ⊢
    rw [ev_put fun n hn hm => hi.pq n hn (ev_slots hx hm)] at hid
    obtain ⟨B, hB, hBr⟩ := hc x hx id hid
    have hlt : id < s.heap.length := (List.getElem?_eq_some_iff.1 hB).1
    rcases eff with ⟨e, _⟩ | ⟨i, X, _, hX, e, _⟩ | ⟨hp, hn, _⟩ | ⟨hcal, _⟩
    · rw [e]; exact ⟨B, hB, hBr⟩
    · rw [e, List.getElem?_set]
      split
      · rename_i hi; subst hi
        rw [if_pos hlt]
        exact ⟨X, rfl, hX⟩
      · exact ⟨B, hB, hBr⟩
    · exfalso
      rcases live_cases hl with rfl | rfl
      · have := hi.plp hp
        cases hpl : p.pl with
        | none => rw [hpl] at this; cases this
        | some _ => rw [hpl] at hn; cases hn
      · cases hp
    · rcases live_cases hl with rfl | rfl
      · have hcls := hi.cls
        by_cases hr : p.op.isR = true
        · obtain ⟨r', t, hrt, _⟩ := exec_isR hr hrun
          exact ⟨B, by rw [← hrt.2, List.getElem?_append_left hlt]; exact hB, hBr⟩
        exfalso
        have hr : p.op.isR = false := by simpa using hr
        have hst : p.op.still = false := by simp [XOp.still, hcal]
        have := hcls
        rw [classOk, hr, hst] at this
        simp only [classOk, hcal, XOp.heapFree, Bool.not_true, Bool.and_false, Bool.false_and, Bool.or_false, Bool.false_or, Bool.and_eq_true, List.isEmpty_iff] at this
        rw [this.1.1] at hx
        cases hx
      · cases hcal
  · exact hK.elim

theorem classOk_mov_left {sep : Bool} {p : XOp} {a : A} : classOk sep (.mov (.k a)) p = true := rfl

theorem classOk_mov_right {sep : Bool} {p : XOp} {a : A} : classOk sep p (.mov (.k a)) = true := by
  simp [classOk, XOp.heapFree, XOp.hx, XOp.pushes, XOp.isCalle]

/-- What two operations look into is different. -/
def SepAt (p q : XOp) (s : St) : Prop := (∀ x ∈ p.tg, ∀ y ∈ q.hx, ∀ id, (ev s.slots x).touch = some id → (ev s.slots y).touch ≠ some id) ∧ (∀ x ∈ p.hx, ∀ y ∈ q.tg, ∀ id, (ev s.slots x).touch = some id → (ev s.slots y).touch ≠ some id)

theorem swapX {base : Nat} {p q : XOper} {s : St} {K : St → Prop} {sep : Bool} (hi : Indep sep p q) (hs : sep = true → SepAt p.op q.op s) (hc : Clear q s) (hK : stepX F base p s fun s1 => stepX F base q s1 K) : stepX F base q s fun s2 => stepX F base p s2 K := by
  unfold stepX at hK
  split at hK
  · rename_i opp hlp
    cases hlq : q.live s.slots with
    | none =>
      exfalso
      obtain ⟨r, h', hk, _⟩ := exec_wit hK
      dsimp only at hk
      rw [live_put hi.pq, hlq] at hk
      exact hk
    | some opq =>
      have hsp : ∀ n, q.dst = some n → n ∉ opp.slots := fun n hn hm => by
        rcases live_cases hlp with rfl | rfl
        · exact hi.qp n hn (List.mem_append_left _ hm)
        · simp [XOp.slots, XO.slots] at hm
      have hsq : ∀ n, p.dst = some n → n ∉ opq.slots := fun n hn hm => by
        rcases live_cases hlq with rfl | rfl
        · exact hi.pq n hn (List.mem_append_left _ hm)
        · simp [XOp.slots, XO.slots] at hm
      have hK' : exec F (p.pl.map (base + ·)) opp (ev s.slots) s.heap fun r1 ha => exec F (q.pl.map (base + ·)) opq (ev (put p.dst r1 s.slots)) ha fun r2 hb => K ⟨put q.dst r2 (put p.dst r1 s.slots), hb⟩ := by
        refine exec_mono (fun r h' hk => ?_) hK
        dsimp only at hk
        rw [live_put hi.pq, hlq] at hk
        exact hk
      have := exec_swap (sep := sep) (p := opp) (q := opq) ?_ ?_ hsp hsq hi.dd ?_ ?_ ?_ ?_ hK'
      · unfold stepX
        rw [hlq]
        refine exec_mono (fun r h' hk => ?_) this
        dsimp only
        rw [live_put hi.qp, hlp]
        exact hk
      · rcases live_cases hlp with rfl | rfl
        · rcases live_cases hlq with rfl | rfl
          · exact hi.cls
          · exact classOk_mov_right
        · exact classOk_mov_left
      · intro hsep
        rcases live_cases hlp with rfl | rfl
        · rcases live_cases hlq with rfl | rfl
          · exact hs hsep
          · exact ⟨fun x hx y hy => (by cases hy), fun x hx y hy => (by cases hy)⟩
        · exact ⟨fun x hx => (by cases hx), fun x hx => (by cases hx)⟩
      · intro hp
        rcases live_cases hlp with rfl | rfl
        · simpa using hi.plp hp
        · cases hp
      · intro hp
        rcases live_cases hlq with rfl | rfl
        · simpa using hi.plq hp
        · cases hp
      · intro hp hq he
        rcases live_cases hlp with rfl | rfl
        · rcases live_cases hlq with rfl | rfl
          · refine hi.pls hp hq ?_
            have h1 := hi.plp hp
            cases hpp : p.pl with
            | none => rw [hpp] at h1; cases h1
            | some u => cases hqq : q.pl with
              | none => rw [hpp, hqq] at he; cases he
              | some v =>
                rw [hpp, hqq] at he
                simp only [Option.map_some, Option.some.injEq] at he
                simp only [Option.some.injEq]
                omega
          · cases hq
        · cases hp
      · intro x hx id hid
        rcases live_cases hlq with rfl | rfl
        · exact hc x hx id hid
        · simp [XOp.hx] at hx
  · exact hK.elim

/-! ### Where pointers made in the region lead -/
/-- A slot leads into the block at a place of the region's own, or into a block that was there before. -/
def rootAt (rt : List (Nat × Option Nat)) (dsts : List Nat) (n : Nat) : Option (Option Nat) :=
  match rt.lookup n with
  | some k => some k
  | none => if dsts.contains n then none else some none

/-- A block at place k; a new one; one that was there before: any, or a named one. -/
def RootIs (σ : Nat → Nat) (base : Nat) (r : Option Nat) (id : Nat) : Prop :=
  match r with
  | some k => if k < 1000 then id = base + k else if k = 1000 then base ≤ id else id = σ k ∧ id < base
  | none => id < base

def RootsOk (σ : Nat → Nat) (base : Nat) (rt : List (Nat × Option Nat)) (dsts : List Nat) (s : St) : Prop :=
  ∀ n r, rootAt rt dsts n = some r → ∀ id, (s.slots n).touch = some id → RootIs σ base r id

/-- Named blocks are different blocks. -/
def SigOk (σ : Nat → Nat) (rt : List (Nat × Option Nat)) : Prop :=
  ∀ p ∈ rt, ∀ q ∈ rt, ∀ k k', p.2 = some k → q.2 = some k' → 1000 < k → 1000 < k' → k ≠ k' → σ k ≠ σ k'

def rootOf (rt : List (Nat × Option Nat)) (dsts : List Nat) (k : Option Nat) : XO → Bool
  | .t m => rootAt rt dsts m == some k
  | _ => false
def rootNew (rt : List (Nat × Option Nat)) (dsts : List Nat) : XO → Bool
  | .t m => match rootAt rt dsts m with
    | some (some j) => decide (j ≤ 1000)
    | _ => false
  | _ => false
def rootPl (pl : Option Nat) (k : Option Nat) : Bool :=
  match pl with
  | some j => k == some j && decide (j < 1000)
  | none => false
def rootOp (rt : List (Nat × Option Nat)) (dsts : List Nat) (pl : Option Nat) (k : Option Nat) : XOp → Bool
  | .alloc _ _ | .box _ _ | .bslice _ _ _ _ => rootPl pl k
  | .mov x | .faddr _ x | .nilck x | .iaddr _ x _ | .slice _ x _ _ _ => rootOf rt dsts k x
  | .append _ x _ => k == some 1000 && pl.isSome && rootNew rt dsts x
  | _ => false

def rootStep (rt : List (Nat × Option Nat)) (dsts : List Nat) (o : XOper) : Bool :=
  match o.dst with
  | none => true
  | some n => dsts.contains n && match rt.lookup n with
    | none => true
    | some k => rootOp rt dsts o.pl k o.op

def sepK (k k' : Nat) : Bool := k != k' && !(k == 1000 && decide (k' < 1000)) && !(k' == 1000 && decide (k < 1000))
def sepX (rt : List (Nat × Option Nat)) (dsts : List Nat) : XO → XO → Bool
  | .t m, .t n => match rootAt rt dsts m, rootAt rt dsts n with
    | some (some k), some (some k') => sepK k k'
    | some (some k), some none => decide (k ≤ 1000)
    | some none, some (some k) => decide (k ≤ 1000)
    | _, _ => false
  | .k a, _ => a.touch.isNone
  | _, .k a => a.touch.isNone
  | .f _, _ => true
  | _, .f _ => true

def sepOps (rt : List (Nat × Option Nat)) (dsts : List Nat) (p q : XOp) : Bool := (p.tg.all fun x => q.hx.all fun y => sepX rt dsts x y) && (p.hx.all fun x => q.tg.all fun y => sepX rt dsts x y)

variable {rt : List (Nat × Option Nat)} {dsts : List Nat} {σ : Nat → Nat}

theorem mem_of_lookup {n : Nat} {k : Option Nat} : ∀ {l : List (Nat × Option Nat)}, l.lookup n = some k → (n, k) ∈ l
  | [], h => by simp at h
  | (m, j) :: l, h => by
    simp only [List.lookup] at h
    split at h
    · rename_i e
      have : n = m := by simpa using e
      cases h; subst this; exact List.mem_cons_self ..
    · exact List.mem_cons_of_mem _ (mem_of_lookup h)

theorem rootAt_mem {n k : Nat} (h : rootAt rt dsts n = some (some k)) : (n, some k) ∈ rt := by
  unfold rootAt at h
  split at h
  · cases h; exact mem_of_lookup ‹_›
  · split at h <;> cases h

theorem sepK_at {base k k' id : Nat} (hs : 1000 < k → 1000 < k' → k ≠ k' → σ k ≠ σ k') (h : sepK k k' = true) (h1 : RootIs σ base (some k) id) (h2 : RootIs σ base (some k') id) : False := by
  simp only [sepK, Bool.and_eq_true, bne_iff_ne, ne_eq, Bool.not_eq_true', Bool.and_eq_false_iff, beq_eq_false_iff_ne, decide_eq_false_iff_not] at h
  obtain ⟨⟨a1, a2⟩, a3⟩ := h
  simp only [RootIs] at h1 h2
  split at h1
  · split at h2
    · omega
    · split at h2
      · omega
      · omega
  · split at h1
    · split at h2
      · omega
      · split at h2
        · omega
        · omega
    · split at h2
      · omega
      · split at h2
        · omega
        · exact hs (by omega) (by omega) a1 (h1.1.symm.trans h2.1)
theorem sepN_at {base k id : Nat} (h : k ≤ 1000) (h1 : RootIs σ base (some k) id) (h2 : RootIs σ base none id) : False := by
  simp only [RootIs] at h1 h2
  split at h1
  · omega
  · split at h1 <;> omega

theorem sepX_at {base : Nat} {x y : XO} {s : St} (hσ : SigOk σ rt) (R : RootsOk σ base rt dsts s) (h : sepX rt dsts x y = true) : ∀ id, (ev s.slots x).touch = some id → (ev s.slots y).touch ≠ some id := by
  intro id h1 h2
  cases x with
  | k a => cases y <;> simp [sepX] at h <;> simp [ev, h] at h1
  | f g => simp [ev, A.touch] at h1
  | t m => cases y with
    | k a => simp [sepX] at h; simp [ev, h] at h2
    | f g => simp [ev, A.touch] at h2
    | t n =>
      simp only [sepX] at h
      simp only [ev] at h1 h2
      split at h
      · rename_i k k' e1 e2
        exact sepK_at (fun a b c => hσ _ (rootAt_mem e1) _ (rootAt_mem e2) _ _ rfl rfl a b c) h (R m _ e1 id h1) (R n _ e2 id h2)
      · rename_i k e1 e2
        exact sepN_at (of_decide_eq_true h) (R m _ e1 id h1) (R n _ e2 id h2)
      · rename_i k e1 e2
        exact sepN_at (of_decide_eq_true h) (R n _ e2 id h2) (R m _ e1 id h1)
      · cases h

theorem sepOps_at {base : Nat} {p q : XOp} {s : St} (hσ : SigOk σ rt) (R : RootsOk σ base rt dsts s) (h : sepOps rt dsts p q = true) : SepAt p q s := by
  simp only [sepOps, Bool.and_eq_true, List.all_eq_true] at h
  exact ⟨fun x hx y hy => sepX_at hσ R (h.1 x hx y hy), fun x hx y hy => sepX_at hσ R (h.2 x hx y hy)⟩

theorem rootOf_at {base : Nat} {k : Option Nat} {x : XO} {sl : Nat → A} {h : Heap} (R : RootsOk σ base rt dsts ⟨sl, h⟩) (ho : rootOf rt dsts k x = true) : ∀ id, (ev sl x).touch = some id → RootIs σ base k id := by
  cases x with
  | t m => exact R m k (by simpa [rootOf] using ho)
  | _ => simp [rootOf] at ho
theorem rootNew_at {base : Nat} {x : XO} {sl : Nat → A} {h : Heap} (R : RootsOk σ base rt dsts ⟨sl, h⟩) (ho : rootNew rt dsts x = true) : ∀ id, (ev sl x).touch = some id → base ≤ id := by
  cases x with
  | t m =>
    simp only [rootNew] at ho
    split at ho
    · rename_i j hj
      intro id hid
      have := R m _ hj id hid
      have hj := of_decide_eq_true ho
      simp only [RootIs] at this
      split at this
      · omega
      · split at this <;> omega
    · cases ho
  | _ => simp [rootNew] at ho

theorem rootPl_at {σ : Nat → Nat} {base : Nat} {pl k : Option Nat} (h : rootPl pl k = true) : ∃ j, pl = some j ∧ ∀ id, id = base + j → RootIs σ base k id := by
  unfold rootPl at h
  split at h
  · rename_i j
    simp only [Bool.and_eq_true, beq_iff_eq, decide_eq_true_eq] at h
    obtain ⟨rfl, hj⟩ := h
    exact ⟨j, rfl, fun id hid => by simp only [RootIs, if_pos hj]; exact hid⟩
  · cases h

theorem exec_root {pl : Option Nat} {base : Nat} {k : Option Nat} {op : XOp} {sl : Nat → A} {h : Heap} {K : A → Heap → Prop} (R : RootsOk σ base rt dsts ⟨sl, h⟩)
    (ho : rootOp rt dsts pl k op = true) (hK : exec F (pl.map (base + ·)) op (ev sl) h K) :
    exec F (pl.map (base + ·)) op (ev sl) h fun r h' => (∀ id, r.touch = some id → RootIs σ base k id) ∧ K r h' := by
  cases op <;> (try (simp [rootOp] at ho; done))
  case mov x =>
    exact ⟨rootOf_at R ho, hK⟩
  case alloc e z =>
    obtain ⟨j, rfl, hr⟩ := rootPl_at (σ := σ) (base := base) ho
    simp only [exec, Option.map_some, place] at hK ⊢
    exact ⟨hK.1, fun id hid => hr _ (by simp [A.touch] at hid; omega), hK.2⟩
  case box e x =>
    obtain ⟨j, rfl, hr⟩ := rootPl_at (σ := σ) (base := base) ho
    simp only [exec, Option.map_some, place] at hK ⊢
    exact ⟨hK.1, hK.2.1, hK.2.2.1, fun id hid => hr _ (by simp [A.touch] at hid; omega), hK.2.2.2⟩
  case bslice e z n ps =>
    obtain ⟨j, rfl, hr⟩ := rootPl_at (σ := σ) (base := base) ho
    simp only [exec, Option.map_some, place] at hK ⊢
    exact rowsTo_imp _ _ (fun a ha => ⟨ha.1, fun id hid => hr _ (by simp [A.touch] at hid; omega), ha.2⟩) hK
  case faddr off x =>
    have hr := rootOf_at R ho
    simp only [exec] at hK ⊢
    generalize ev sl x = y at *
    cases y <;> try exact hK.elim
    · exact ⟨fun id hid => by simp [A.touch] at hid, hK⟩
    · dsimp only at hK ⊢
      split at hK
      · exact ⟨hK.1, fun id hid => hr id (by simpa [A.touch] using hid), hK.2⟩
      · exact hK.elim
  case nilck x =>
    have hr := rootOf_at R ho
    simp only [exec] at hK ⊢
    generalize ev sl x = y at *
    cases y <;> try exact hK.elim
    · exact ⟨fun id hid => by simp [A.touch] at hid, hK⟩
    · dsimp only at hK ⊢
      split at hK
      · exact ⟨hK.1, fun id hid => hr id (by simpa [A.touch] using hid), hK.2⟩
      · exact hK.elim
    · exact ⟨fun id hid => by simp [A.touch] at hid, hK⟩
  case iaddr e x i =>
    have hr := rootOf_at R ho
    simp only [exec] at hK ⊢
    split at hK
    · exact ⟨hK.1, hK.2.1, hK.2.2.1, fun id hid => by simp [A.touch] at hid, hK.2.2.2⟩
    · exact ⟨hK.1, hK.2.1, hK.2.2.1, fun id hid => by simp [A.touch] at hid, hK.2.2.2⟩
    · rename_i heq _
      split at hK
      · refine ⟨hK.1, hK.2.1, hK.2.2.1, hK.2.2.2.1, fun id hid => hr id ?_, hK.2.2.2.2⟩
        rw [heq]; simpa [A.touch] using hid
      · exact hK.elim
    · exact hK.elim
  case slice e x lo hi mx =>
    have hr := rootOf_at R ho
    simp only [exec] at hK ⊢
    split at hK
    · exact ⟨hK.1, hK.2.1, hK.2.2.1, fun id hid => by simp [A.touch] at hid, hK.2.2.2⟩
    · split at hK
      · exact ⟨hK.1, hK.2.1, hK.2.2.1, hK.2.2.2.1, hK.2.2.2.2.1, fun id hid => by simp [A.touch] at hid, hK.2.2.2.2.2⟩
      · exact hK.elim
    · split at hK
      · exact ⟨hK.1, hK.2.1, hK.2.2.1, hK.2.2.2.1, hK.2.2.2.2.1, fun id hid => by simp [A.touch] at hid, hK.2.2.2.2.2⟩
      · exact hK.elim
    · rename_i heq
      split at hK
      · split at hK
        · refine ⟨hK.1, hK.2.1, hK.2.2.1, hK.2.2.2.1, hK.2.2.2.2.1, hK.2.2.2.2.2.1, fun id hid => hr id ?_, hK.2.2.2.2.2.2⟩
          rw [heq]; simpa [A.touch] using hid
        · exact hK.elim
      · exact hK.elim
    · exact hK.elim
  case append e x y =>
    simp only [rootOp, Bool.and_eq_true, beq_iff_eq] at ho
    obtain ⟨⟨rfl, hp⟩, hn⟩ := ho
    obtain ⟨j, rfl⟩ := Option.isSome_iff_exists.1 hp
    have hr := rootNew_at R hn
    have big : ∀ {id : Nat}, base ≤ id → RootIs σ base (some 1000) id := fun h => by simpa [RootIs] using h
    simp only [exec, Option.map_some, place] at hK ⊢
    split at hK
    · split at hK
      · split at hK
        · rw [if_pos ‹_›]; exact ⟨fun id hid => by simp [A.touch] at hid, hK⟩
        · rw [if_neg ‹_›]
          exact ⟨hK.1, hK.2.1, hK.2.2.1, fun id hid => big (by simp [A.touch] at hid; omega), hK.2.2.2⟩
      · rename_i heq
        have hid := hr _ (by rw [heq]; rfl)
        split at hK
        · obtain ⟨h1, h2, h3, h4, h5, hK⟩ := hK
          refine ⟨h1, h2, h3, h4, h5, ?_⟩
          split at hK
          · rw [if_pos ‹_›]; exact ⟨fun i hi => big (by simp [A.touch] at hi; omega), hK⟩
          · rw [if_neg ‹_›]; exact ⟨hK.1, hK.2.1, fun i hi => big (by simp [A.touch] at hi; omega), hK.2.2⟩
        · exact hK.elim
      · exact hK.elim
    · exact hK.elim

theorem stepX_roots {base : Nat} {o : XOper} {s : St} {K : St → Prop} (R : RootsOk σ base rt dsts s) (ho : rootStep rt dsts o = true) (hK : stepX F base o s K) : stepX F base o s fun s' => RootsOk σ base rt dsts s' ∧ K s' := by
  unfold stepX at *
  split at hK
  · rename_i op hl
    cases hd : o.dst with
    | none =>
      rw [hd] at hK
      exact exec_mono (fun r h' hr => ⟨R, hr⟩) hK
    | some d =>
      rw [hd] at hK
      simp only [rootStep, hd, Bool.and_eq_true] at ho
      obtain ⟨hc, ho⟩ := ho
      have keep : ∀ (r : A) (h' : Heap), (∀ k, rt.lookup d = some k → ∀ id, r.touch = some id → RootIs σ base k id) → RootsOk σ base rt dsts ⟨put (some d) r s.slots, h'⟩ := by
        intro v h' hr n r hx id hid
        by_cases hn : n = d
        · subst hn
          simp only [put, upd, if_true] at hid
          simp only [rootAt] at hx
          split at hx
          · rename_i hk
            cases hx
            exact hr _ hk id hid
          · rw [if_pos hc] at hx; cases hx
        · simp only [put, upd, if_neg hn] at hid
          exact R n r hx id hid
      cases hk : rt.lookup d with
      | none => exact exec_mono (fun r h' hr => ⟨keep r h' (fun k hk' => by rw [hk] at hk'; cases hk'), hr⟩) hK
      | some k =>
        rw [hk] at ho
        rcases live_cases hl with rfl | rfl
        · refine exec_mono (fun r h' hr => ⟨keep r h' (fun k' hk' => ?_), hr.2⟩) (exec_root (h := s.heap) R ho hK)
          rw [hk] at hk'
          cases hk'
          exact hr.1
        · simp only [exec] at hK ⊢
          exact ⟨keep _ _ (fun k' _ id hid => by simp [ev, A.touch] at hid), hK⟩
  · exact hK.elim

theorem bubble {base : Nat} {q : XOper} {post : List XOper} {K : St → Prop} : ∀ (pre : List XOper) (s : St), SigOk σ rt → (∀ p ∈ pre, rootStep rt dsts p = true ∧ Indep (sepOps rt dsts p.op q.op) p q) → RootsOk σ base rt dsts s → Clear q s → runX F base (pre ++ q :: post) s K → stepX F base q s fun s' => runX F base (pre ++ post) s' K := by
  intro pre
  induction pre with
  | nil => intro s _ _ _ _ hK; exact hK
  | cons p pre ih =>
    intro s hσ hi hR hc hK
    obtain ⟨hrp, hip⟩ := hi p (List.mem_cons_self ..)
    have h1 := stepX_roots hR hrp (stepX_clear hip hc hK)
    have h2 : stepX F base p s fun s1 => stepX F base q s1 fun s2 => runX F base (pre ++ post) s2 K :=
      stepX_mono (fun s1 hs => ih s1 hσ (fun p hp => hi p (List.mem_cons_of_mem _ hp)) hs.1 hs.2.1 hs.2.2) h1
    exact swapX hip (fun hs => sepOps_at hσ hR hs) hc h2

end Go.Proofs.YtckglkbbdbmdkaaDoor.Nx
