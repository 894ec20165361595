/- From a law's contract to what its row says. -/
import Derived.Test.YtckglkbbdbmdkaaDoorNxLink
namespace Go.Proofs.YtckglkbbdbmdkaaDoor.Nx
set_option linter.unusedSimpArgs false
set_option linter.unusedVariables false
set_option linter.unnecessarySimpa false
open Go Go.ChangeShapes Go.WideShapes Go.RowKit

variable {H : Type} {enc : TypeId × Value → H} {P : Program} {W W' : World}

/-! ### Arguments -/
def argA : Ty → List D → A
  | .st _, xs => .agg (xs.map .d)
  | _, xs => .d (xs.headD (.sc (.bool false)))

def WTAll : List Ty → List (List D) → Prop
  | [], [] => True
  | t :: ts, x :: xs => WT t x ∧ WTAll ts xs
  | _, _ => False

def argsA : List Ty → List (List D) → List A
  | t :: ts, x :: xs => argA t x :: argsA ts xs
  | _, _ => []

theorem argsA_length : ∀ {ts : List Ty} {xs : List (List D)}, WTAll ts xs → (argsA ts xs).length = ts.length
  | [], [], _ => rfl
  | _ :: _, _ :: _, h => by simp [argsA, argsA_length h.2]
  | [], _ :: _, h => h.elim
  | _ :: _, [], h => h.elim

theorem own_none (b : Nat) : ¬ Own (fun _ => False) [] b := by
  rintro (h | ⟨id, p, hp⟩)
  · exact h
  · simp at hp

theorem RepD.sc1 {w : World} {X : Nat → Prop} {x : D} {v : Value} (h : RepD w X x v) (hv : ∀ cs, v ≠ .agg cs) : True := trivial

theorem tyOf_under {m : Nat} {t : TypeId} {ty : Ty} (h : tyOf P (m + 1) t = some ty) : match ty with
    | .st _ => (∃ fs, P.underlying t = some (.struct fs)) ∨ ∃ n e, P.underlying t = some (.array n e)
    | _ => (∀ fs, P.underlying t ≠ some (.struct fs)) ∧ ∀ n e, P.underlying t ≠ some (.array n e) := by
  simp only [tyOf] at h
  split at h
  · rename_i hu
    split at h <;> cases h
    exact ⟨fun fs h => (by rw [hu] at h; cases h), fun n e h => (by rw [hu] at h; cases h)⟩
  · rename_i hu
    split at h <;> cases h
    exact ⟨fun fs h => (by rw [hu] at h; cases h), fun n e h => (by rw [hu] at h; cases h)⟩
  · rename_i hu
    split at h <;> cases h
    exact ⟨fun fs h => (by rw [hu] at h; cases h), fun n e h => (by rw [hu] at h; cases h)⟩
  · rename_i hu
    split at h
    · simp only [Option.map_eq_some_iff] at h
      obtain ⟨_, _, rfl⟩ := h
      exact ⟨fun fs h => (by rw [hu] at h; cases h), fun n e h => (by rw [hu] at h; cases h)⟩
    · cases h
  · rename_i fs hu
    split at h
    · split at h
      · cases h; exact .inl ⟨fs, hu⟩
      · cases h
    · cases h
  · rename_i k e hu
    split at h
    · split at h
      · cases h; exact .inr ⟨k, e, hu⟩
      · cases h
    · cases h
  · cases h

/-- One argument. -/
theorem arg_rep {b0 : Nat} {t : TypeId} {ty : Ty} {v : Value} {d : DataW H} {ps : List MemPlace} (hty : tyOf P 20 t = some ty) (hd : DataW.Trod enc P W 0 (fun _ => true) true t v d ps) (hval : Value.okWide P W .any b0 t v)
    (hw : ∀ k ∈ d.weights P t, k ≤ reachBytes) : ∃ xs, WT ty xs ∧ RepA W (fun _ => False) [] [] (argA ty xs) v := by
  obtain ⟨n, hn⟩ := hd
  obtain ⟨⟨xs, h1, h2, h3, h4⟩, h5⟩ := rep_of_trod (X := Own (fun _ => False) []) own_none 20 t ty hty n _ _ hn hw
  refine ⟨xs, h1, ?_⟩
  -- a value of one cell
  have one : ∀ (x : D), xs = [x] → (∀ ts, ty ≠ .st ts) → (∀ cs, v ≠ .agg cs) → RepA W (fun _ => False) [] [] (argA ty xs) v := by
    intro x hx hst hv
    have hlen : v.cells.toList.length = 1 := by rw [h3, hx]; rfl
    have hcell : v.cells = #[v] := by
      cases v <;> first | rfl | exact absurd rfl (hv _)
    have hrep := h4 0 x (by rw [hx]; rfl)
    rw [hcell] at hrep
    simp at hrep
    have e : argA ty xs = .d x := by
      cases ty <;> first | (exact absurd rfl (hst _)) | (simp [argA, hx])
    rw [e]
    exact .d hrep
  have notAgg : (∀ fs, P.underlying t ≠ some (.struct fs)) → (∀ n e, P.underlying t ≠ some (.array n e)) → ∀ cs, v ≠ .agg cs := by
    rintro q1 q2 cs rfl
    unfold Value.okWide at hval
    split at hval
    · exact q1 _ ‹_›
    · exact q2 _ _ ‹_›
    · unfold Cell.okWide at hval
      split at hval
      all_goals first | contradiction | skip
      unfold Cell.ok at hval
      split at hval
      all_goals first | contradiction | exact hval.elim | skip
  have hun := tyOf_under hty
  cases ty with
  | int k =>
    obtain ⟨m, hx, _⟩ := h1
    exact one _ hx (fun ts h => by cases h) (notAgg hun.1 hun.2)
  | bool =>
    obtain ⟨m, hx⟩ := h1
    exact one _ hx (fun ts h => by cases h) (notAgg hun.1 hun.2)
  | str =>
    obtain ⟨m, hx, _⟩ := h1
    exact one _ hx (fun ts h => by cases h) (notAgg hun.1 hun.2)
  | sl e u =>
    obtain ⟨m, hx, _⟩ := h1
    exact one _ hx (fun ts h => by cases h) (notAgg hun.1 hun.2)
  | st ts =>
    have hagg : ∃ cs, v = .agg cs := by
      rcases hun with ⟨fs, hu⟩ | ⟨n, e, hu⟩
      · simp only [Value.okWide, hu] at hval
        obtain ⟨cs, h, _⟩ := hval
        exact ⟨cs, h⟩
      · simp only [Value.okWide, hu] at hval
        obtain ⟨cs, h, _⟩ := hval
        exact ⟨cs, h⟩
    obtain ⟨cs, rfl⟩ := hagg
    refine .agg (by simpa [Value.cells] using h3) (fun u hu' => ?_) (fun j x hj => ?_)
    · obtain ⟨j, hj⟩ := List.mem_iff_getElem?.1 hu'
      have hlt : j < xs.length := by
        have := (List.getElem?_eq_some_iff.1 hj).1
        simp only [Value.cells] at h3; omega
      have := (h4 j _ (List.getElem?_eq_getElem hlt)).one
      simpa [Value.cells, hj] using this
    · simp only [List.getElem?_map, Option.map_eq_some_iff] at hj
      obtain ⟨x', hx', rfl⟩ := hj
      have := h4 j x' hx'
      have e : cs.getD j undef = cs.toList.getD j undef := by
        rw [Array.getD_eq_getD_getElem?, List.getD_eq_getElem?_getD, Array.getElem?_toList]
      rw [e]
      exact .d this

theorem args_rep {b0 : Nat} : ∀ {ts : List TypeId} {tys : List Ty} {vs : List Value} {ds : List (DataW H)} {ps : List MemPlace}, ts.mapM (tyOf P 20) = some tys → DataW.TrodAll enc P W 0 (fun _ => true) true ts vs ds ps →
    (∀ (j : Nat) t v, ts[j]? = some t → vs[j]? = some v → Value.okWide P W .any b0 t v) → (∀ k ∈ DataW.weightsEach P ts ds, k ≤ reachBytes) →
    ∃ xss, WTAll tys xss ∧ vs.length = (argsA tys xss).length ∧ ∀ (j : Nat) (x : A), (argsA tys xss)[j]? = some x → RepA W (fun _ => False) [] [] x (vs.getD j undef)
  | [], tys, vs, ds, ps, hm, ht, _, _ => by
    simp at hm
    subst hm
    obtain ⟨rfl, rfl, rfl⟩ := trodAll_nil ht
    exact ⟨[], trivial, rfl, fun j x hj => by simp [argsA] at hj⟩
  | t :: ts, tys, vs, ds, ps, hm, ht, hval, hw => by
    simp only [List.mapM_cons, Option.bind_eq_bind, Option.pure_def, Option.bind_eq_some_iff, Option.some.injEq] at hm
    obtain ⟨ty, hty, tys', htys, rfl⟩ := hm
    obtain ⟨v, vs, d, ds, p, q, rfl, rfl, rfl, h1, h2⟩ := trodAll_cons ht
    obtain ⟨x, k1, k2⟩ := arg_rep hty h1 (hval 0 t v rfl rfl) (fun k hk => hw k (by simp only [DataW.weightsEach, List.mem_append]; exact .inl hk))
    obtain ⟨xss, q1, q2, q3⟩ := args_rep htys h2 (fun j t v ht hv => hval (j + 1) t v (by simpa using ht) (by simpa using hv)) (fun k hk => hw k (by simp only [DataW.weightsEach, List.mem_append]; exact .inr hk))
    refine ⟨x :: xss, ⟨k1, q1⟩, by simp [argsA, q2], fun j y hj => ?_⟩
    cases j with
    | zero => simp [argsA] at hj; subst hj; simpa using k2
    | succ j => simp [argsA] at hj; simpa using q3 j y hj

/-! ### Tables -/
def flatTy (P : Program) : Nat → TypeId → Bool
  | 0, _ => false
  | n + 1, t => match P.underlying t with
    | some (.int _) => P.cellsOf t == 1
    | some (.struct fs) => match tyFields P (fun t => if flatTy P n t then some .bool else none) 0 fs.toList with
      | some (_, en) => en == P.cellsOf t
      | none => false
    | some (.array k e) => flatTy P n e && P.cellsOf t == k * P.cellsOf e
    | _ => false

mutual
def flat {H : Type} : DataW H → List Value
  | .lit (.int k n) => [.int k n]
  | .agg ps => flatAll ps
  | _ => []
def flatAll {H : Type} : List (DataW H) → List Value
  | [] => []
  | d :: ds => flat d ++ flatAll ds
end

theorem flatAll_map {α : Type} {f : α → DataW H} : ∀ (l : List α), flatAll (l.map f) = l.flatMap fun x => flat (f x)
  | [] => rfl
  | x :: l => by simp [flatAll, flatAll_map l]

theorem range_slices {cs : List Value} {c : Nat} : ∀ n, ((List.range n).flatMap fun i => (cs.drop (i * c)).take c) = cs.take (n * c)
  | 0 => by simp
  | n + 1 => by
    rw [List.range_succ, List.flatMap_append, range_slices n]
    simp only [List.flatMap_cons, List.flatMap_nil, List.append_nil]
    rw [Nat.add_mul, Nat.one_mul, List.take_add]

theorem fields_flat {rec : TypeId → Option Ty} {cs : List Value} : ∀ (fs : List Go.Field) (xs : List (DataW H × List MemPlace)) (off : Nat) (tys : List Ty) (en : Nat), tyFields P rec off fs = some (tys, en) → xs.length = fs.length →
    (∀ (i : Nat) (f : Go.Field) x, fs[i]? = some f → xs[i]? = some x → (rec f.type).isSome = true → flat x.1 = (cs.drop f.offset).take (P.cellsOf f.type) ∧ ∀ v ∈ (cs.drop f.offset).take (P.cellsOf f.type), scOk v) →
    flatAll (xs.map (·.1)) = (cs.drop off).take (en - off) ∧ off ≤ en ∧ ∀ v ∈ (cs.drop off).take (en - off), scOk v
  | [], [], off, tys, en, h, _, _ => by
    simp only [tyFields, Option.some.injEq, Prod.mk.injEq] at h
    obtain ⟨_, rfl⟩ := h
    simp [flatAll]
  | [], _ :: _, off, tys, en, _, hl, _ => by simp at hl
  | _ :: _, [], off, tys, en, _, hl, _ => by simp at hl
  | f :: fs, x :: xs, off, tys, en, h, hl, hf => by
    simp only [tyFields] at h
    split at h
    · rename_i ho
      split at h
      · rename_i t ts en' h1 h2
        simp only [Option.some.injEq, Prod.mk.injEq] at h
        obtain ⟨_, rfl⟩ := h
        obtain ⟨k1, k2, k3⟩ := fields_flat fs xs _ ts en' h2 (by simpa using hl) (fun i g y hg hy => hf (i + 1) g y (by simpa using hg) (by simpa using hy))
        obtain ⟨q1, q2⟩ := hf 0 f x rfl rfl (by rw [h1]; rfl)
        have e : (cs.drop off).take (en' - off) = (cs.drop off).take (P.cellsOf f.type) ++ (cs.drop (off + P.cellsOf f.type)).take (en' - (off + P.cellsOf f.type)) := by
          have : en' - off = P.cellsOf f.type + (en' - (off + P.cellsOf f.type)) := by omega
          rw [this, List.take_add, List.drop_drop]
        rw [ho] at q1 q2
        refine ⟨?_, by omega, fun v hv => ?_⟩
        · simp only [List.map_cons, flatAll, k1, q1]; exact e.symm
        · rw [e] at hv
          rcases List.mem_append.1 hv with hv | hv
          · exact q2 v hv
          · exact k3 v hv
      · cases h
    · cases h

theorem flat_of_trod {base : Nat} {sp : Nat → Bool} {held : Bool} : ∀ (m : Nat) (t : TypeId), flatTy P m t = true → ∀ (n : Nat) (cs : List Value) (x : DataW H × List MemPlace), DataW.trod enc P W base sp held n t cs = some x → flat x.1 = cs ∧ cs.length = P.cellsOf t ∧ ∀ v ∈ cs, scOk v := by
  intro m
  induction m with
  | zero => intro t h; simp [flatTy] at h
  | succ m ih =>
    intro t h n cs x hx
    simp only [flatTy] at h
    split at h
    · rename_i k hu
      obtain ⟨b, rfl, rfl, hb⟩ := DataW.trod_int hu hx
      simp only [Lit.wf, Bool.and_eq_true, decide_eq_true_eq] at hb
      exact ⟨rfl, by simpa using (by simpa using h : P.cellsOf t = 1).symm, fun v hv => by simp at hv; subst hv; exact hb⟩
    · rename_i fs hu
      split at h
      · rename_i ts en hfs
        obtain ⟨xs, n', rfl, rfl, hl, hxs, hget⟩ := DataW.trod_struct hu hx
        have hen : en = P.cellsOf t := by simpa using h
        obtain ⟨k1, k2, k3⟩ := fields_flat (cs := cs) fs.toList xs 0 ts en hfs (by simpa using hxs) (fun i f y hf hy hr => by
          have hg := hget i f (by simpa using hf)
          rw [hy] at hg
          have hft : flatTy P m f.type = true := by
            by_cases hh : flatTy P m f.type = true
            · exact hh
            · simp [hh] at hr
          obtain ⟨q1, q2, q3⟩ := ih f.type hft n' _ y hg
          exact ⟨q1, q3⟩)
        have e : (cs.drop 0).take (en - 0) = cs := by rw [List.drop_zero, Nat.sub_zero, hen, ← hl, List.take_length]
        rw [e] at k1 k3
        exact ⟨by simp only [flat]; exact k1, hl, k3⟩
      · cases h
    · rename_i k e hu
      simp only [Bool.and_eq_true, beq_iff_eq] at h
      obtain ⟨h1, h2⟩ := h
      obtain ⟨xs, n', rfl, rfl, hl, hp⟩ := trod_array hu hx
      obtain ⟨r1, r2⟩ := mapM_range hp
      have key : ∀ (i : Nat) (y : DataW H × List MemPlace), xs[i]? = some y → flat y.1 = (cs.drop (i * P.cellsOf e)).take (P.cellsOf e) ∧ ∀ v ∈ (cs.drop (i * P.cellsOf e)).take (P.cellsOf e), scOk v := fun i y hy => by
        obtain ⟨q1, q2, q3⟩ := ih e h1 _ _ y (r2 i y hy)
        exact ⟨q1, q3⟩
      have hflat : (xs.flatMap fun y => flat y.1) = (List.range k).flatMap fun i => (cs.drop (i * P.cellsOf e)).take (P.cellsOf e) := by
        have hx : (xs.map fun y => flat y.1) = (List.range k).map fun i => (cs.drop (i * P.cellsOf e)).take (P.cellsOf e) := by
          apply List.ext_getElem?
          intro i
          by_cases hi : i < k
          · have : xs[i]? = some xs[i] := List.getElem?_eq_getElem (by omega)
            simp [hi, this, (key i _ this).1]
          · rw [List.getElem?_eq_none (by simp; omega), List.getElem?_eq_none (by simp; omega)]
        simp only [List.flatMap, hx]
      have hcs : (List.range k).flatMap (fun i => (cs.drop (i * P.cellsOf e)).take (P.cellsOf e)) = cs := by
        rw [range_slices]; exact List.take_of_length_le (by omega)
      refine ⟨?_, hl, fun v hv => ?_⟩
      · simp only [flat]
        rw [flatAll_map, hflat, hcs]
      · rw [← hcs] at hv
        obtain ⟨i, hi, hv⟩ := List.mem_flatMap.1 hv
        have hi' : i < k := by simpa using hi
        exact (key i _ (List.getElem?_eq_getElem (show i < xs.length by omega))).2 v hv
    · cases h

/-- The tables that a row lists, as the abstract machine takes them. -/
def tabsOf (P : Program) (laid : List (String × DataW Unit)) : Option Tabs :=
  laid.mapM fun p => match P.globalNamed p.1 with
    | some g => match (P.globals[g]?).map (·.type) with
      | some t => if flatTy P 20 t then some (g, (flat p.2).map .sc) else none
      | none => none
    | none => none

theorem tabs_ok {laid : List (String × DataW Unit)} {Γ : Tabs} (ht : tabsOf P laid = some Γ) (hL : laidMet P laid W) : TabT Γ W (fun _ => False) [] [] := by
  obtain ⟨ps, hv, -, -⟩ := hL
  unfold tabsOf at ht
  induction laid generalizing Γ ps with
  | nil => simp at ht; subst ht; intro g cs h; cases h
  | cons p laid ih =>
    obtain ⟨n, d⟩ := p
    simp only [List.mapM_cons, Option.bind_eq_bind, Option.pure_def, Option.bind_eq_some_iff, Option.some.injEq] at ht
    obtain ⟨y, hy, Γ', hΓ, rfl⟩ := ht
    simp only [DataW.LaidVars] at hv
    obtain ⟨g, t, cs, fuel, p, q, h1, h2, h3, h4, h5, rfl⟩ := hv
    intro g' cs' hm
    rcases List.mem_cons.1 hm with hm | hm
    · rw [h1] at hy
      dsimp only at hy
      rw [h2] at hy
      dsimp only at hy
      split at hy
      · rename_i hf
        cases hy
        cases hm
        obtain ⟨k1, k2, k3⟩ := flat_of_trod 20 t hf fuel _ _ h4
        dsimp only at k1
        have hheap : ∀ j, W.cell? ⟨g, j, none⟩ = cs[j]? := by
          intro j
          unfold World.var? at h3
          rw [h1] at h3
          simp only [Option.bind_some] at h3
          unfold World.cell?
          cases hg : W.heap[g]? with
          | none => rw [hg] at h3; simp at h3
          | some o =>
            rw [hg] at h3
            cases o <;> simp_all
        refine .iptr (fun j => cs.getD j undef) (fun j d hj => ?_) (fun j d hj => ?_)
        · simp only [List.getElem?_map, Option.map_eq_some_iff] at hj
          obtain ⟨v, hv, rfl⟩ := hj
          rw [k1] at hv
          rw [add_off, Nat.zero_add, hheap]
          refine ⟨?_, own_none _⟩
          have hv' : cs[j]? = some v := by simpa using hv
          rw [Array.getD_eq_getD_getElem?, hv']; rfl
        · simp only [List.getElem?_map, Option.map_eq_some_iff] at hj
          obtain ⟨v, hv, rfl⟩ := hj
          rw [k1] at hv
          have hv' : cs[j]? = some v := by simpa using hv
          have : cs.getD j undef = v := by rw [Array.getD_eq_getD_getElem?, hv']; rfl
          rw [this]
          exact .sc (k3 v (List.mem_of_getElem? hv))
      · cases hy
    · exact ih hΓ _ h5 g' cs' hm

/-! ### The law -/
theorem trodAll_len {sp : Nat → Bool} {base : Nat} {held : Bool} : ∀ {ts : List TypeId} {vs : List Value} {ds : List (DataW H)} {ps : List MemPlace}, DataW.TrodAll enc P W base sp held ts vs ds ps → ds.length = ts.length
  | [], vs, ds, ps, h => by obtain ⟨rfl, rfl, rfl⟩ := trodAll_nil h; rfl
  | t :: ts, vs, ds, ps, h => by
    obtain ⟨v, vs, d, ds, p, q, rfl, rfl, rfl, h1, h2⟩ := trodAll_cons h
    simp [trodAll_len h2]

theorem trodAll_stays (hl : laidOutB P = true) {sp : Nat → Bool} : ∀ {ts : List TypeId} {vs : List Value} {ds : List (DataW H)} {ps : List MemPlace}, (∀ t ∈ ts, P.readableRec t = true ∧ t < P.types.size) →
    DataW.TrodAll enc P W 0 (fun _ => true) true ts vs ds ps → (∀ p ∈ ps, W.sameAt W' p) → (∀ p ∈ ps, sp p.block = true) → DataW.TrodAll enc P W' 0 sp true ts vs ds ps
  | [], vs, ds, ps, _, h, _, _ => by obtain ⟨rfl, rfl, rfl⟩ := trodAll_nil h; exact trodAll_mk0
  | t :: ts, vs, ds, ps, hr, h, hs, hp => by
    obtain ⟨v, vs, d, ds, p, q, rfl, rfl, rfl, h1, h2⟩ := trodAll_cons h
    have a := hr t (List.mem_cons_self ..)
    exact trodAll_cons_mk (WideElems.Trod_stays hl a.1 a.2 h1 (fun x hx => hs x (List.mem_append_left _ hx)) (fun x hx => hp x (List.mem_append_left _ hx)))
      (trodAll_stays hl (fun t ht => hr t (List.mem_cons_of_mem _ ht)) h2 (fun x hx => hs x (List.mem_append_right _ hx)) (fun x hx => hp x (List.mem_append_right _ hx)))

theorem Evo.same {b : Nat} (g : Evo 0 [] [] W [] [] W') (hb : b < W.heap.size) : W'.heap[b]? = W.heap[b]? := g.old b hb (fun id p h => by simp at h)

theorem Evo.kept (g : Evo 0 [] [] W [] [] W') (may : MemPlace → Prop) : W.keptBut W' may := by
  refine ⟨g.os, g.output, fun i hi => ?_⟩
  rw [g.same hi]
  cases W.heap[i]? with
  | none => rfl
  | some o => cases o <;> first | rfl | exact ⟨rfl, rfl, rfl, fun _ _ => rfl⟩ | exact .inr ⟨rfl, rfl⟩

theorem law_post {fn : Func} {s : ChangeSpec} {args : Array Value} {ds gs : List (DataW H)} {before : List MemPlace} {tb : TypeId} (hr : fn.resultTypes = #[tb]) (hb : P.underlying tb = some .bool) (hv : s.vars = []) (hl : laidOutB P = true)
    (hrd : ∀ t ∈ fn.params.toList, P.readableRec t = true ∧ t < P.types.size) (hs : ∀ ds : List (DataW H), ds.length = fn.params.toList.length → s.fn H ds = { results := [.lit (.bool true)], args := ds })
    (hW : DataW.Whole enc P fn.params.toList s.vars false W args.toList ds gs before) (g : Evo 0 [] [] W [] [] W') : s.post enc P fn false true false false W args (.bool true) W' := by
  have hW' := hW
  have hlt : ∀ p ∈ before, p.block < W.heap.size := fun p hp => hW.lt p hp
  obtain ⟨p, q, hA, hV, rfl, hfz, hnd⟩ := hW
  rw [hv] at hV
  obtain ⟨rfl, rfl⟩ := trodVars_none hV
  have hlen : ds.length = fn.params.toList.length := trodAll_len hA
  have he : s.fn H (ds ++ []) = { results := [.lit (.bool true)], args := ds } := by rw [List.append_nil]; exact hs ds hlen
  refine ⟨ds, [], _, [], p, [], hW', ?_, ?_, ?_, g.kept _, fun h => by cases h⟩
  · rw [he, hr]
    exact trodAll_cons_mk (shut_bool hb true) trodAll_mk0
  · rw [he]
    refine trodAll_stays hl hrd hA (fun x hx => ?_) (fun x hx => by simpa using hlt x (List.mem_append_left _ hx))
    have := g.same (hlt x (List.mem_append_left _ hx))
    cases x with
    | cell b off => exact World.cell?_of_block this
    | map b => exact this
  · rw [he, hv]; rfl

/-- What the row of a law asks, out of the law's contract. -/
theorem law_contract {f : FuncId} {fn : Func} {s : ChangeSpec} {args : Array Value} {ds gs : List (DataW H)} {before : List MemPlace} {tb : TypeId} {base : Nat} {Γ : Tabs} {tys : List Ty} {laid : List (String × DataW Unit)}
    (hr : fn.resultTypes = #[tb]) (hb : P.underlying tb = some .bool) (hv : s.vars = []) (hl : laidOutB P = true) (hrd : ∀ t ∈ fn.params.toList, P.readableRec t = true ∧ t < P.types.size)
    (hs : ∀ ds : List (DataW H), ds.length = fn.params.toList.length → s.fn H ds = { results := [.lit (.bool true)], args := ds }) (hty : fn.params.toList.mapM (tyOf P 20) = some tys) (hΓ : tabsOf P laid = some Γ)
    (law : ∀ xss, WTAll tys xss → FnP Γ P f (argsA tys xss) (.bool true))
    (hval : ∀ (j : Nat) t v, fn.params[j]? = some t → args[j]? = some v → Value.okWide P W .any base t v)
    (hW : DataW.Whole enc P fn.params.toList s.vars false W args.toList ds gs before) (hw : (DataW.weightsEach P fn.params.toList ds).all (· ≤ reachBytes) = true) (hL : laidMet P laid W) :
    Calls P f args W fun e W' => ∃ v, e = .returned v ∧ s.post enc P fn false true false false W args v W' := by
  have hW' := hW
  obtain ⟨p, q, hA, -, -, -, -⟩ := hW
  obtain ⟨xss, k1, k2, k3⟩ := args_rep hty hA (fun j t v ht hv => hval j t v (by simpa using ht) (by simpa using hv)) (fun k hk => by
    have := List.all_eq_true.1 hw k hk
    simpa using this)
  refine ((law xss k1).run (fun _ => False) W args (fun _ h => h.elim) (tabs_ok hΓ hL) ⟨by simpa using k2, fun j x hj => ?_⟩).mono fun e W1 ⟨v, he, hrep, g⟩ => ?_
  · have := k3 j x hj
    have e : args.getD j undef = args.toList.getD j undef := by
      rw [Array.getD_eq_getD_getElem?, List.getD_eq_getElem?_getD, Array.getElem?_toList]
    rw [e]; exact this
  · have hvb : v = .bool true := by
      cases hrep with
      | d hx => cases hx; rfl
    subst hvb
    exact ⟨_, he, law_post hr hb hv hl hrd hs hW' g⟩

end Go.Proofs.YtckglkbbdbmdkaaDoor.Nx
