/- A region whose order is drawn. -/
import Derived.Test.YtckglkbbdbmdkaaDoorNxRegion
namespace Go.Proofs.YtckglkbbdbmdkaaDoor.Nx
set_option linter.unusedSimpArgs false
set_option linter.unusedVariables false
set_option linter.unnecessarySimpa false
open Go

variable {P : Program} {w w' : World} {M : Nat → Prop} {ρ ρ' : Phys} {h h' : Heap} {z : Still} {F : Fns}

def closT : List (List Nat) → List Nat → List Nat
  | [], acc => acc
  | l :: r, acc => closT r (acc ++ [l.foldl (fun s k => s ||| 2 ^ k ||| acc.getD k 0) 0])

theorem fold_bit {f : Nat → Nat} {j : Nat} : ∀ (l : List Nat) (s0 : Nat), (l.foldl (fun s k => s ||| 2 ^ k ||| f k) s0).testBit j = true → s0.testBit j = true ∨ ∃ k ∈ l, j = k ∨ (f k).testBit j = true
  | [], s0, h => .inl h
  | k :: l, s0, h => by
    rcases fold_bit l _ h with h | ⟨k', hk, h⟩
    · rw [Nat.testBit_or, Nat.testBit_or, Nat.testBit_two_pow] at h
      simp only [Bool.or_eq_true, decide_eq_true_eq] at h
      rcases h with (h | h) | h
      · exact .inl h
      · exact .inr ⟨k, List.mem_cons_self .., .inl h.symm⟩
      · exact .inr ⟨k, List.mem_cons_self .., .inr h⟩
    · exact .inr ⟨k', List.mem_cons_of_mem _ hk, h⟩

theorem closT_spec : ∀ (r pre : List (List Nat)) (acc : List Nat), acc.length = pre.length →
    (∀ i j, (acc.getD i 0).testBit j = true → ∃ k ∈ pre.getD i [], j = k ∨ (k < i ∧ (acc.getD k 0).testBit j = true)) →
    ∀ i j, ((closT r acc).getD i 0).testBit j = true → ∃ k ∈ (pre ++ r).getD i [], j = k ∨ (k < i ∧ ((closT r acc).getD k 0).testBit j = true)
  | [], pre, acc, hl, hg => by simpa [closT] using hg
  | l :: r, pre, acc, hl, hg => by
    have := closT_spec r (pre ++ [l]) (acc ++ [l.foldl (fun s k => s ||| 2 ^ k ||| acc.getD k 0) 0]) (by simp [hl]) ?_
    · simpa [closT] using this
    · intro i j hb
      simp only [List.getD_eq_getElem?_getD] at hb hg ⊢
      rcases Nat.lt_trichotomy i acc.length with hlt | heq | hgt
      · rw [List.getElem?_append_left hlt] at hb
        obtain ⟨k, hk, h⟩ := hg i j hb
        refine ⟨k, by rw [List.getElem?_append_left (by omega)]; exact hk, ?_⟩
        rcases h with h | ⟨h1, h2⟩
        · exact .inl h
        · exact .inr ⟨h1, by rw [List.getElem?_append_left (by omega)]; exact h2⟩
      · subst heq
        rw [List.getElem?_append_right (Nat.le_refl _)] at hb
        simp only [Nat.sub_self, List.getElem?_cons_zero, Option.getD_some] at hb
        rcases fold_bit l 0 hb with h | ⟨k, hk, h⟩
        · simp at h
        · refine ⟨k, by rw [List.getElem?_append_right (by omega)]; simpa [hl] using hk, ?_⟩
          rcases h with h | h
          · exact .inl h
          · have hlt : k < acc.length := by
              rcases Nat.lt_or_ge k acc.length with h' | h'
              · exact h'
              · rw [List.getElem?_eq_none h'] at h; simp at h
            exact .inr ⟨hlt, by rw [List.getElem?_append_left hlt]; exact h⟩
      · rw [List.getElem?_eq_none (by simp; omega)] at hb
        simp at hb

def aftOf (o : Oper) : List Nat := (o.after.toList.filter (Region.binds .any)).map (·.on)

def hxOk (x : XOper) : Bool := x.op.hx.all fun y => match y with
  | .k a => a.touch.isNone
  | _ => true

def pairsOk (rt : List (Nat × Option Nat)) (dsts : List Nat) (tab : List Nat) (xs : List XOper) : Bool :=
  (List.range xs.length).all fun i => (List.range i).all fun j => (tab.getD i 0).testBit j || match xs[j]?, xs[i]? with
    | some p, some q => indep (sepOps rt dsts p.op q.op) p q
    | _, _ => false

def dstsOf (xs : List XOper) : List Nat := xs.filterMap (·.dst)

/-- 'rt': the slots that point to blocks made in the region, with their places. -/
def drawOk (rt : List (Nat × Option Nat)) (ops : Array Oper) (xs : List XOper) : Bool :=
  let afts := ops.toList.map aftOf
  pairsOk rt (dstsOf xs) (closT afts []) xs && xs.all hxOk && xs.all (rootStep rt (dstsOf xs)) && (List.range afts.length).all fun i => (afts.getD i []).all fun k => decide (k < i)

theorem anc_listed {afts : List (List Nat)} {tab : List Nat} {L : Nat → Prop} (ht : ∀ i j, (tab.getD i 0).testBit j = true → ∃ k ∈ afts.getD i [], j = k ∨ (k < i ∧ (tab.getD k 0).testBit j = true))
    (hL : ∀ i, L i → ∀ k ∈ afts.getD i [], L k) : ∀ (n i j : Nat), i < n → (∀ k ∈ afts.getD i [], L k) → (tab.getD i 0).testBit j = true → L j
  | 0, i, j, hn, _, _ => absurd hn (Nat.not_lt_zero _)
  | n + 1, i, j, hn, ha, hb => by
    obtain ⟨k, hk, h⟩ := ht i j hb
    rcases h with rfl | ⟨hlt, h⟩
    · exact ha _ hk
    · exact anc_listed ht hL n k j (by omega) (hL k (ha k hk)) h

theorem touch_clear {s : St} {a : Act} {q : XOper} (S : Sim z w M ρ s a) (hq : hxOk q = true) : Clear q s := by
  intro x hx id hid
  simp only [hxOk, List.all_eq_true] at hq
  have hx := hq x hx
  cases x with
  | t n =>
    simp only [ev] at hid
    have hr := S.slots n
    generalize s.slots n = y at hid hr
    generalize valAt a.tmps n = v at hr
    cases hr <;> simp only [A.touch, Option.some.injEq] at hid <;> first | (cases hid; done) | (subst hid; exact ⟨_, ‹_›, by simp⟩)
  | k b => simp only [ev] at hid; simp [hid] at hx
  | f g => simp [ev, A.touch] at hid

theorem getD_iff {l : Array Bool} {k : Nat} (hk : k < l.size) (b : Bool) : l.getD k b = l[k] := by simp [Array.getD, hk]

theorem drawn_any {σ : Nat → Nat} (hF : FnsOk z.Γ P F) {rl : Option Nat} {ops : Array Oper} {xs : List XOper} {base : Nat} {K : St → Prop} {Q : Exit → Act → World → Prop} (H : OpsAre P z.n ops xs) {rt : List (Nat × Option Nat)} (hσ : SigOk σ rt) (ok : drawOk rt ops xs = true) :
    ∀ (fuel : Nat) (l : List Nat) (listed : Array Bool) (s : St) (ρ : Phys) (a : Act) (w : World), listed.size = ops.size → (∀ i, i ∈ l ↔ i < ops.size ∧ listed.getD i true = false) → l.Pairwise (· < ·) → l.length ≤ fuel →
      (∀ i, i < ops.size → i ∉ l → ∀ k ∈ (ops.toList.map aftOf).getD i [], k ∉ l) →
      Sim z w M ρ s a → RootsOk σ base rt (dstsOf xs) s → runX F base (l.filterMap (xs[·]?)) s K → (∀ s' ρ' a' w', K s' → Sim z w' M ρ' s' a' → Evo s.heap.length s.heap ρ w s'.heap ρ' w' → Q .normal a' w') →
      wpAnyIn (Fw rl) 0 P .any ops Q fuel listed a w := by
  simp only [drawOk, Bool.and_eq_true, List.all_eq_true, List.mem_range, decide_eq_true_eq] at ok
  obtain ⟨⟨⟨okP, okH⟩, okR⟩, okB⟩ := ok
  have tabS := closT_spec (ops.toList.map aftOf) [] [] rfl (by simp)
  simp only [List.nil_append] at tabS
  generalize closT (ops.toList.map aftOf) [] = tab at *
  -- an operation that is ready
  have isReady : ∀ {l : List Nat} {listed : Array Bool}, listed.size = ops.size → (∀ i, i ∈ l ↔ i < ops.size ∧ listed.getD i true = false) → ∀ i, i ∈ Region.ready .any ops listed ↔ i ∈ l ∧ ∀ k ∈ (ops.toList.map aftOf).getD i [], k < ops.size ∧ k ∉ l := by
    intro l listed hsz hl i
    simp only [Region.ready, List.mem_filter, List.mem_range, Bool.and_eq_true, Bool.not_eq_true']
    constructor
    · rintro ⟨hi, h1, h2⟩
      refine ⟨(hl i).2 ⟨hi, h1⟩, fun k hk => ?_⟩
      rw [Array.getElem?_eq_getElem hi] at h2
      simp only [Option.map_some, Option.getD_some, Array.all_eq_true, Bool.or_eq_true, Bool.not_eq_true'] at h2
      simp only [List.getD_eq_getElem?_getD, List.getElem?_map, Array.getElem?_toList, Array.getElem?_eq_getElem hi, Option.map_some, Option.getD_some, aftOf, List.mem_map, List.mem_filter] at hk
      obtain ⟨e, ⟨he, hb⟩, rfl⟩ := hk
      obtain ⟨j, hj, rfl⟩ := Array.mem_iff_getElem.1 (Array.mem_toList_iff.1 he)
      have h2 := h2 j hj
      rcases h2 with h2 | h2
      · rw [hb] at h2; cases h2
      · have hk : ops[i].after[j].on < listed.size := by
          rcases Nat.lt_or_ge ops[i].after[j].on listed.size with h' | h'
          · exact h'
          · simp [Array.getD, Nat.not_lt.2 h'] at h2
        refine ⟨hsz ▸ hk, fun hm => ?_⟩
        have := ((hl _).1 hm).2
        rw [getD_iff hk] at this h2
        rw [this] at h2; cases h2
    · rintro ⟨hi, h2⟩
      obtain ⟨hi, h1⟩ := (hl i).1 hi
      refine ⟨hi, h1, ?_⟩
      rw [Array.getElem?_eq_getElem hi]
      simp only [Option.map_some, Option.getD_some, Array.all_eq_true, Bool.or_eq_true, Bool.not_eq_true']
      intro j hj
      cases hb : Region.binds .any ops[i].after[j] with
      | false => exact .inl rfl
      | true =>
        refine .inr ?_
        obtain ⟨hk, hn⟩ := h2 ops[i].after[j].on (by
          simp only [List.getD_eq_getElem?_getD, List.getElem?_map, Array.getElem?_toList, Array.getElem?_eq_getElem hi, Option.map_some, Option.getD_some, aftOf, List.mem_map, List.mem_filter]
          exact ⟨_, ⟨by simp, hb⟩, rfl⟩)
        rw [← hsz] at hk
        rw [getD_iff hk]
        cases hv : listed[ops[i].after[j].on] with
        | true => rfl
        | false => exact absurd ((hl _).2 ⟨hsz ▸ hk, by rw [getD_iff hk]; exact hv⟩) hn
  -- where nothing is ready, nothing is left
  have isDone : ∀ {l : List Nat} {listed : Array Bool}, listed.size = ops.size → (∀ i, i ∈ l ↔ i < ops.size ∧ listed.getD i true = false) → l.Pairwise (· < ·) → Region.ready .any ops listed = [] → l = [] := by
    intro l listed hsz hl hp hr
    cases l with
    | nil => rfl
    | cons i l =>
      exfalso
      have hi : i < ops.size := ((hl i).1 (List.mem_cons_self ..)).1
      have : i ∈ Region.ready .any ops listed := (isReady hsz hl i).2 ⟨List.mem_cons_self .., fun k hk => by
        have hlt := okB i (by simpa using hi) k hk
        refine ⟨by omega, fun hm => ?_⟩
        rcases List.mem_cons.1 hm with rfl | hm
        · exact Nat.lt_irrefl _ hlt
        · have := (List.pairwise_cons.1 hp).1 k hm; omega⟩
      rw [hr] at this
      cases this
  intro fuel
  induction fuel with
  | zero =>
    intro l listed s ρ a w hsz hl hp hlen hcl S hR hK hn
    have : l = [] := List.eq_nil_of_length_eq_zero (by omega)
    subst this
    refine ⟨?_, hn s ρ a w hK S (.refl _ _ _ _ (Nat.le_refl _))⟩
    rw [List.eq_nil_iff_forall_not_mem]
    intro i hi
    have := ((isReady hsz hl i).1 hi).1
    cases this
  | succ fuel ih =>
    intro l listed s ρ a w hsz hl hp hlen hcl S hR hK hn
    refine ⟨fun hr => ?_, fun i hi => ?_⟩
    · have := isDone hsz hl hp hr
      subst this
      exact hn s ρ a w hK S (.refl _ _ _ _ (Nat.le_refl _))
    · obtain ⟨hil, hik⟩ := (isReady hsz hl i).1 hi
      obtain ⟨pre, post, rfl⟩ := List.append_of_mem hil
      have hilt : i < ops.size := ((hl i).1 hil).1
      have ho : ops[i]? = some ops[i] := Array.getElem?_eq_getElem hilt
      obtain ⟨q, hq⟩ : ∃ q, xs[i]? = some q := ⟨_, List.getElem?_eq_getElem (by rw [H.len]; exact hilt)⟩
      simp only [List.filterMap_append, List.filterMap_cons, hq] at hK
      have hpre : ∀ j ∈ pre, j < i := fun j hj => (List.pairwise_append.1 hp).2.2 j hj i (List.mem_cons_self ..)
      have hpost : ∀ j ∈ post, i < j := fun j hj => (List.pairwise_cons.1 (List.pairwise_append.1 hp).2.1).1 j hj
      have hind : ∀ p ∈ pre.filterMap (xs[·]?), rootStep rt (dstsOf xs) p = true ∧ Indep (sepOps rt (dstsOf xs) p.op q.op) p q := by
        intro p hp'
        obtain ⟨j, hj, hjp⟩ := List.mem_filterMap.1 hp'
        refine ⟨okR p (List.mem_iff_getElem?.2 ⟨j, hjp⟩), ?_⟩
        have hlt := hpre j hj
        have := okP
        simp only [pairsOk, List.all_eq_true, List.mem_range] at this
        have := this i (by rw [H.len]; exact hilt) j hlt
        rw [hjp, hq] at this
        simp only [Bool.or_eq_true] at this
        rcases this with hb | hb
        · exfalso
          refine anc_listed (L := fun k => k < ops.size ∧ k ∉ pre ++ i :: post) tabS (fun i' hi' k hk => ?_) (i + 1) i j (Nat.lt_succ_self _) (fun k hk => hik k hk) hb |>.2 (List.mem_append_left _ hj)
          have := okB i' (by simpa using hi'.1) k hk
          exact ⟨by omega, hcl i' hi'.1 hi'.2 k hk⟩
        · exact .of hb
      have hcq : Clear q s := touch_clear S (okH q (List.mem_iff_getElem?.2 ⟨i, hq⟩))
      have hstep := stepX_roots hR (okR q (List.mem_iff_getElem?.2 ⟨i, hq⟩)) (bubble _ s hσ hind hR hcq hK)
      refine step_sound hF ho (H.get i _ q ho hq) (fun m hm => H.dst i q m hq hm) S hstep fun s' ρ' a' w' ⟨hR', hk⟩ S' g => ?_
      have hmem : ∀ j, j ∈ pre ++ post ↔ j ∈ pre ++ i :: post ∧ j ≠ i := by
        intro j
        simp only [List.mem_append, List.mem_cons]
        constructor
        · rintro (hj | hj)
          · exact ⟨.inl hj, by have := hpre j hj; omega⟩
          · exact ⟨.inr (.inr hj), by have := hpost j hj; omega⟩
        · rintro ⟨hj | rfl | hj, hne⟩
          · exact .inl hj
          · exact absurd rfl hne
          · exact .inr hj
      refine ih (pre ++ post) _ s' ρ' a' w' (by simp [hsz]) (fun j => ?_) ?_ ?_ (fun j hj hjn k hk hkm => ?_) S' hR' (by simpa [List.filterMap_append] using hk) fun s'' ρ'' a'' w'' hk' S'' g' => hn s'' ρ'' a'' w'' hk' S'' (g.trans (g'.mono g.len))
      · rw [hmem, hl j]
        simp only [Array.getD_eq_getD_getElem?, Array.getElem?_setIfInBounds]
        constructor
        · rintro ⟨⟨h1, h2⟩, h3⟩
          exact ⟨h1, by rw [if_neg (fun e => h3 e.symm)]; exact h2⟩
        · rintro ⟨h1, h2⟩
          split at h2
          · rw [if_pos (by omega)] at h2; simp at h2
          · exact ⟨⟨h1, h2⟩, fun e => by omega⟩
      · rw [List.pairwise_append] at hp ⊢
        refine ⟨hp.1, (List.pairwise_cons.1 hp.2.1).2, fun x hx y hy => hp.2.2 x hx y (List.mem_cons_of_mem _ hy)⟩
      · simp only [List.length_append, List.length_cons] at hlen ⊢; omega
      · have hkm' := (hmem k).1 hkm
        by_cases hji : j = i
        · subst hji; exact (hik k hk).2 hkm'.1
        · exact hcl j hj (fun hm => hjn ((hmem j).2 ⟨hm, hji⟩)) k hk hkm'.1

def resCount (xs : List XOper) : Nat := (xs.filter fun x => x.op.pushes).length

theorem filterMap_range {α : Type} : ∀ (l : List α), (List.range l.length).filterMap (l[·]?) = l
  | [] => rfl
  | x :: l => by
    rw [List.length_cons, List.range_succ_eq_map, List.filterMap_cons]
    simp only [List.getElem?_cons_zero, List.filterMap_map]
    congr 1
    have : ((fun x_1 => (x :: l)[x_1]?) ∘ Nat.succ) = (l[·]?) := by funext i; simp
    rw [this, filterMap_range l]

theorem region_sound (hF : FnsOk z.Γ P F) {rl : Option Nat} {id : Nat} {ops : Array Oper} {xs : List XOper} {s : St} {a : Act} {K : St → Prop} {Q : Exit → Act → World → Prop} (H : OpsAre P z.n ops xs) (S : Sim z w M ρ s a) (hK : runX F s.heap.length xs s K)
    (hn : ∀ s' ρ' a' w', K s' → Sim z w' M ρ' s' a' → Evo s.heap.length s.heap ρ w s'.heap ρ' w' → Q .normal a' w') : (Code.region id ops false).wpIn (Fw rl) 0 P Q a w :=
  wpIn_region (ops_sound hF H _ s ρ a w S (by rw [← H.len, filterMap_range]; exact hK) hn)

theorem drawn_sound {σ : Nat → Nat} (hF : FnsOk z.Γ P F) (hm : P.follows .mixedOrders = true) {rl : Option Nat} {id n : Nat} {ops : Array Oper} {xs : List XOper} {s : St} {a : Act} {K : St → Prop} {Q : Exit → Act → World → Prop} (H : OpsAre P z.n ops xs) {rt : List (Nat × Option Nat)} (hσ : SigOk σ rt) (ok : drawOk rt ops xs = true) (hrt : ∀ p ∈ rt, ∀ id, (s.slots p.1).touch = some id → RootIs σ s.heap.length p.2 id) (S : Sim z w M ρ s a)
    (hK : runX F s.heap.length xs { s with heap := s.heap ++ List.replicate n .res } K)
    (hn : ∀ s' ρ' a' w', K s' → Sim z w' M ρ' s' a' → Evo s.heap.length s.heap ρ w s'.heap ρ' w' → Q .normal a' w') : (Code.region id ops true).wpIn (Fw rl) 0 P Q a w := by
  have g1 : Evo s.heap.length s.heap ρ w s.heap ρ w.drew := .drew _ (Nat.le_refl _)
  have g2 : Evo s.heap.length s.heap ρ w.drew (s.heap ++ List.replicate n .res) (ρ ++ List.replicate n none) w.drew := .reserve n S.sim.len
  have g := g1.trans g2
  have S' : Sim z w.drew M (ρ ++ List.replicate n none) { s with heap := s.heap ++ List.replicate n .res } a := ⟨S.bnd, S.sim.drew.reserve n, S.slots.evo g, S.size, S.nlt, S.tabs.evo g, S.defers.evo g⟩
  refine wpIn_region_any hm (drawn_any (σ := σ) hF H hσ ok ops.size (List.range ops.size) _ _ _ a _ (by simp) (fun i => ?_) List.pairwise_lt_range (by simp) (fun i hi hni => absurd (List.mem_range.2 hi) hni) S' (fun n r hr id hid => ?_) (by rw [← H.len, filterMap_range]; exact hK) fun s' ρ' a' w' hk S'' g' => hn s' ρ' a' w' hk S'' (g.trans (g'.mono (by simp))))
  · simp only [List.mem_range]
    constructor
    · intro hi; exact ⟨hi, by simp [Array.getD, hi]⟩
    · intro hi; exact hi.1
  · dsimp only at hid
    simp only [rootAt] at hr
    split at hr
    · rename_i k hk
      cases hr
      exact hrt _ (mem_of_lookup hk) id hid
    · split at hr
      · cases hr
      · cases hr
        have hu := (S.slots n).under
        generalize s.slots n = x at hid hu
        cases x <;> simp [A.touch] at hid <;> subst hid <;> simpa [A.under, RootIs] using hu

end Go.Proofs.YtckglkbbdbmdkaaDoor.Nx
