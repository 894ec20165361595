/- slices.Grow for any element, out of the library's contract; slices.Concat of rows of cells. -/
/- Rows of cells: halve and separate, which change their caller's block; open. -/
/- Rows of cells: Put. -/
import Derived.Test.YtckglkbbdbmdkaaDoorNxB0
import Derived.Test.YtckglkbbdbmdkaaDoorNxQ1
import Derived.Test.YtckglkbbdbmdkaaDoorNxD15
import Derived.Shelf.Spec.SlicesGrow
import Derived.Test.YtckglkbbdbmdkaaDoorNxK0
import Derived.Test.YtckglkbbdbmdkaaDoorNxQ3
namespace Go.Proofs.YtckglkbbdbmdkaaDoor.Nx
set_option linter.unusedSimpArgs false
set_option linter.unusedVariables false
set_option linter.unnecessarySimpa false
open Go Go.Lib Go.Proofs Go.Shelf

variable {P : Program} {N : Nat} {Γ : Tabs}

def entersBE (P : Program) (f : FuncId) : Bool := match P.funcs[f]? with
  | some fn => !(fn.name == "runtime.NumGoroutine") && fn.body.isSome
  | none => false
theorem enters_ofE {f : FuncId} (h : entersBE P f = true) : Enters P f := by
  unfold entersBE at h
  split at h
  · rename_i fn hf
    simp only [Bool.and_eq_true, Bool.not_eq_true'] at h
    exact ⟨fn, hf, h.1, h.2⟩
  · cases h

theorem growE_args {w : World} {M : Nat → Prop} {ρ : Phys} {h : Heap} {vs : Array Value} {n : Nat} (hargs : RepAs w M ρ h [.nil, .int n] vs) : vs = #[.slice none 0 0, .int .i64 n] := by
  obtain ⟨h1, h2⟩ := hargs
  have k0 : vs.getD 0 undef = .slice none 0 0 := by
    have := h2 0 _ rfl
    generalize vs.getD 0 undef = y at this
    cases this; rfl
  have k1 : vs.getD 1 undef = .int .i64 n := by
    have := h2 1 _ rfl
    generalize vs.getD 1 undef = y at this
    cases this with
    | d hx => cases hx; rfl
  rcases vs with ⟨l⟩
  match l, h1 with
  | [a, b], _ =>
    have e0 : a = .slice none 0 0 := k0
    have e1 : b = .int .i64 n := k1
    rw [e0, e1]

theorem growE0_fn {rn : Ren} {f : FuncId} (L : Lays8.n4 P rn) (hf : rn.f 4 = f) (he : Enters P f) : FnP Γ P f [.nil, .int (0 : Nat)] .nil := by
  subst hf
  refine ⟨he, fun M w vs bnd T hargs => ?_⟩
  obtain rfl := growE_args hargs
  refine (Any8.slices_Grow_room L none 0 0 0 w (Nat.le_refl _) (by omega) (by omega) (Nat.le_refl _)).mono fun ex w' ⟨he, hw⟩ => ?_
  subst hw
  exact ⟨_, he, .nil, .refl _ _ _ _ (Nat.le_refl _)⟩

theorem growE1_fn {rn : Ren} {f : FuncId} {Δ : Ctx} {e : Elt} (L : Lays8.n4 P rn) (hf : rn.f 4 = f) (he : Enters P f) (i0 : TypeInfo) (z : Value) (hi0 : P.info? (rn.t 25) = some i0) (hz0 : i0.zero = some z) (hs0 : i0.size = e.sz) (hb0 : i0.bytes = e.bytes) (hzc : z.cells.size = e.sz) (he0 : 0 < e.sz) (heb : e.bytes ≤ 1000)
    (n : Nat) (hn : 0 < n) (hl : n ≤ 100000) (h : Heap) : FnD Δ P f [.nil, .int n] h (.ref h.length 0 0 0 true) (h ++ [.cells e []]) := by
  subst hf
  refine ⟨he, fun M w ρ vs bnd S T hargs => ?_⟩
  obtain rfl := growE_args hargs
  refine (Any8.slices_Grow_grow L i0 z hi0 hz0 (by omega) none 0 0 n [] w (Nat.le_refl _) (by omega) (by rw [hb0]; exact Nat.le_trans (Nat.mul_le_mul (show 0 + n ≤ 100000 by omega) heb) (by omega)) (by omega) (by simp) (fun _ => rfl) (fun a ha => by cases ha)).mono fun ex w' ⟨he, hw⟩ => ?_
  obtain ⟨cs, hcs⟩ : ∃ cs, cs = ([] : List Value).toArray ++ Builtin.zeroCells z.cells (0 + n - 0) ++ Builtin.zeroCells z.cells (grownCap w (0 + n) 0 (rn.t 25) - (0 + n)) := ⟨_, rfl⟩
  rw [← hcs] at hw
  subst hw
  have hgc := grownCap_ge w (0 + n) 0 (rn.t 25)
  have hgm := grownCap_le_maxLen w (0 + n) 0 (rn.t 25) (by simp only [maxLen]; omega)
  have hsz : cs.size = grownCap w (0 + n) 0 (rn.t 25) * e.sz := by
    rw [hcs]
    simp only [Array.size_append, size_zeroCells, hzc, List.size_toArray, List.length_nil]
    rw [Nat.zero_add, ← Nat.add_mul]
    congr 1
    omega
  have S1 : SimH w.drew M ρ h := S.drew
  have nw : NewAt h ρ (.cells e []) (some (w.drew.heap.size, cs.size)) none h.length (h ++ [.cells e []]) (ρ ++ [some (w.drew.heap.size, cs.size)]) := .push
  have S2 := S1.newCells (cs := cs) bnd (rn.t 25) nw he0 (by simp [room]) (by simp [maxLen]) (by simp) (by simp) (fun i r j x hi => by simp at hi)
  have g2 := Evo.newAlloc (o := .cells cs (rn.t 25)) nw S1.len
  refine ⟨_, _, he, ?_, S2, (Evo.drew _ (Nat.le_refl _)).trans g2⟩
  have := RepA.ref (M := M) (w := w.drew.alloc (.cells cs (rn.t 25))) (off := 0) (len := 0) (o := 0) (cap := grownCap w (0 + n) 0 (rn.t 25)) (full := true) nw.heap (nw.phys S1.len) (Nat.le_refl _) (Nat.zero_le _) hgm (.inr (Nat.zero_mul _).symm)
    (by rw [hsz, Nat.zero_add]; exact Nat.le_refl _) (fun _ => Nat.zero_le _)
  exact this

def growInfoE (P : Program) (t : TypeId) (e : Elt) : Bool := match P.info? t with
  | some i => i.size == e.sz && i.bytes == e.bytes && (match i.zero with
    | some z => z.cells.size == e.sz
    | none => false)
  | none => false
theorem growE_fn {rn : Ren} {f : FuncId} {Δ : Ctx} {e : Elt} (L : Lays8.n4 P rn) (hf : rn.f 4 = f) (he : Enters P f) (hi : growInfoE P (rn.t 25) e = true) (he0 : 0 < e.sz) (heb : e.bytes ≤ 1000) (n : Nat) (hn : 0 < n) (hl : n ≤ 100000) (h : Heap) : FnD Δ P f [.nil, .int n] h (.ref h.length 0 0 0 true) (h ++ [.cells e []]) := by
  unfold growInfoE at hi
  split at hi
  · rename_i i0 h0
    split at hi
    · rename_i z hz
      simp only [Bool.and_eq_true, beq_iff_eq] at hi
      exact growE1_fn L hf he i0 z h0 hz hi.1.1 hi.1.2 hi.2 he0 heb n hn hl h
    · simp at hi
  · cases hi

/-! ### slices.Concat -/
def catC (ls : List (List Ce)) (i : Nat) : List Ce := (ls.take i).flatten
theorem catC_succ {ls : List (List Ce)} {i : Nat} (hi : i < ls.length) : catC ls (i + 1) = catC ls i ++ ls[i] := by
  simp only [catC]
  rw [List.take_add_one, List.getElem?_eq_getElem hi, Option.toList_some, List.flatten_append, List.flatten_cons, List.flatten_nil, List.append_nil]
theorem catC_le {ls : List (List Ce)} {i : Nat} : (catC ls i).length ≤ ls.flatten.length := by
  have : ls.flatten = catC ls i ++ (ls.drop i).flatten := by rw [catC, ← List.flatten_append, List.take_append_drop]
  rw [this, List.length_append]; omega

theorem concatC_fn {f fg : FuncId} (H : FnIs P f N [.t 2] (x_slices_Concat_750 fg)) (hN : 1 ≤ N) (Hg0 : FnP Γ P fg [.nil, .int (0 : Nat)] .nil) (Hg : ∀ n : Nat, 0 < n → n ≤ 100000 → ∀ h, FnD Γ.ctx P fg [.nil, .int n] h (.ref h.length 0 0 0 true) (h ++ [.cells eCe []]))
    (ls : List (List Ce)) (hl : ls.length ≤ 1000) (hlf : ls.flatten.length ≤ 100000) : FnP Γ P f [.d (.sl eRw (crRows ls))] (.d (.sl eCe (ceRows ls.flatten))) := by
  refine .of_W H (by simpa using hN) ?_
  have hfl : catC ls ls.length = ls.flatten := by simp [catC]
  unfold x_slices_Concat_750
  refine W_seq (W_reg ?_)
  simp only [xs, xl, argS, reduceIte, Nat.reduceEqDiff, Nat.reduceAdd, Nat.reduceLT, Nat.reduceLeDiff, A.okCells, A.cells, A.one, splice]
  refine W_seq (W_reg ?_)
  simp only [xs, xl, argS, reduceIte, Nat.reduceEqDiff, Nat.reduceAdd, Nat.reduceLT, Nat.reduceLeDiff, A.okCells, A.cells, A.one, splice]
  let S1 : Nat → St := fun i => ⟨look [(0, .d (.sl eRw (crRows ls))), (3, .int (catC ls i).length), (9, .d (.sl eRw (crRows ls))), (10, .int ls.length), (11, .int i)], []⟩
  let T1 : St := ⟨look [(0, .d (.sl eRw (crRows ls))), (3, .int ls.flatten.length)], []⟩
  refine W_cut (· = T1) ?_ ?_
  · refine W_seq (W_reg ?_)
    simp only [xs, xl, argS, reduceIte, Nat.reduceEqDiff, Nat.reduceAdd, Nat.reduceLT, Nat.reduceLeDiff, A.okCells, A.cells, A.one, splice, crRows_len]
    refine W_block ?_
    refine W_co (s' := S1 0) (Co.keep _ (by simp [x_upd, x_look, catC])) ?_
    refine W_loop (fun m s => ∃ i, i ≤ ls.length ∧ m = ls.length - i ∧ s = S1 i) ⟨0, Nat.zero_le _, rfl, rfl⟩ ?_
    rintro m s ⟨i, hi, rfl, rfl⟩
    refine W_seq (W_reg ?_)
    simp only [S1, xs, xl, argS, reduceIte, Nat.reduceEqDiff, Nat.reduceAdd, Nat.reduceLT, Nat.reduceLeDiff, A.okCells, A.cells, A.one, splice]
    refine W_seq (W_cond rfl (fun hc => W_skip ?_) (fun hc => W_exit ?_))
    · have hlt : i < ls.length := by simpa using hc
      have hsz := catC_succ hlt
      have hle := catC_le (ls := ls) (i := i + 1)
      have e1 : IntKind.i64.wrap (((catC ls i).length : Int) + (ls[i].length : Int)) = ((catC ls (i + 1)).length : Int) := by
        rw [hsz, List.length_append] at *
        rw [i64_of (by omega)]; omega
      have e2 : decide (((catC ls (i + 1)).length : Int) < 0) = false := decide_eq_false (by omega)
      simp only [xs, xl, argS, reduceIte, Nat.reduceEqDiff, Nat.reduceAdd, Nat.reduceLT, Nat.reduceLeDiff, A.okCells, A.cells, A.one, splice]
      refine W_seq (W_block (W_seq (W_reg ?_)))
      simp only [xs, xl, argS, reduceIte, Nat.reduceEqDiff, Nat.reduceAdd, Nat.reduceLT, Nat.reduceLeDiff, A.okCells, A.cells, A.one, splice, crRows_get hlt, crRows_len]
      refine ⟨by omega, by omega, ?_⟩
      refine W_seq (W_reg ?_)
      simp only [xs, xl, argS, reduceIte, Nat.reduceEqDiff, Nat.reduceAdd, Nat.reduceLT, Nat.reduceLeDiff, A.okCells, A.cells, A.one, splice, ceRows_length, e1]
      refine W_seq (W_reg ?_)
      simp only [xs, xl, argS, reduceIte, Nat.reduceEqDiff, Nat.reduceAdd, Nat.reduceLT, Nat.reduceLeDiff, A.okCells, A.cells, A.one, splice, e2]
      refine W_cond rfl (fun hd => by cases hd) (fun _ => W_skip ?_)
      simp only [xs, xl, argS, reduceIte, Nat.reduceEqDiff, Nat.reduceAdd, Nat.reduceLT, Nat.reduceLeDiff, A.okCells, A.cells, A.one, splice]
      refine W_reg ?_
      simp only [xs, xl, argS, reduceIte, Nat.reduceEqDiff, Nat.reduceAdd, Nat.reduceLT, Nat.reduceLeDiff, A.okCells, A.cells, A.one, splice]
      refine ⟨ls.length - (i + 1), S1 (i + 1), by omega, Co.keep _ ?_, i + 1, hlt, rfl, rfl⟩
      simp [x_upd, x_look, i64_succ hlt (show ls.length ≤ room by simp only [room]; omega)]
    · have hle : i = ls.length := by simp at hc; omega
      subst hle
      simp only [xs, xl, argS, reduceIte, Nat.reduceEqDiff, Nat.reduceAdd, Nat.reduceLT, Nat.reduceLeDiff, A.okCells, A.cells, A.one, splice]
      refine ⟨T1, ?_, rfl⟩
      simp only [T1, hfl]
      exact Co.keep _ (by simp [x_upd, x_look])
  rintro _ rfl
  simp only [T1]
  rcases Nat.eq_zero_or_pos ls.flatten.length with h0 | h0
  · -- nothing
    have hnil : ls.flatten = [] := List.eq_nil_of_length_eq_zero h0
    have hni : ∀ i, catC ls i = [] := fun i => List.eq_nil_of_length_eq_zero (by have := catC_le (ls := ls) (i := i); omega)
    refine W_seq (W_reg ?_)
    simp only [xs, xl, argS, reduceIte, Nat.reduceEqDiff, Nat.reduceAdd, Nat.reduceLT, Nat.reduceLeDiff, A.okCells, A.cells, A.one, splice, h0]
    refine ce_fn (Hg0.join rfl) ?_
    simp only [xs, xl, argS, reduceIte, Nat.reduceEqDiff, Nat.reduceAdd, Nat.reduceLT, Nat.reduceLeDiff, A.okCells, A.cells, A.one, splice]
    let S2 : Nat → St := fun i => ⟨look [(6, .nil), (25, .d (.sl eRw (crRows ls))), (26, .int ls.length), (27, .int i)], []⟩
    refine W_seq (W_seq (W_reg ?_))
    simp only [xs, xl, argS, reduceIte, Nat.reduceEqDiff, Nat.reduceAdd, Nat.reduceLT, Nat.reduceLeDiff, A.okCells, A.cells, A.one, splice, crRows_len]
    refine W_block ?_
    refine W_co (s' := S2 0) (Co.keep _ (by simp [x_upd, x_look])) ?_
    refine W_loop (fun m s => ∃ i, i ≤ ls.length ∧ m = ls.length - i ∧ s = S2 i) ⟨0, Nat.zero_le _, rfl, rfl⟩ ?_
    rintro m s ⟨i, hi, rfl, rfl⟩
    refine W_seq (W_reg ?_)
    simp only [S2, xs, xl, argS, reduceIte, Nat.reduceEqDiff, Nat.reduceAdd, Nat.reduceLT, Nat.reduceLeDiff, A.okCells, A.cells, A.one, splice]
    refine W_seq (W_cond rfl (fun hc => W_skip ?_) (fun hc => W_exit ?_))
    · have hlt : i < ls.length := by simpa using hc
      have hli : ls[i] = [] := by
        have := catC_succ hlt
        rw [hni, hni] at this
        exact (List.append_eq_nil_iff.1 this.symm).2
      simp only [xs, xl, argS, reduceIte, Nat.reduceEqDiff, Nat.reduceAdd, Nat.reduceLT, Nat.reduceLeDiff, A.okCells, A.cells, A.one, splice]
      refine W_seq (W_block (W_seq (W_reg ?_)))
      simp only [xs, xl, argS, reduceIte, Nat.reduceEqDiff, Nat.reduceAdd, Nat.reduceLT, Nat.reduceLeDiff, A.okCells, A.cells, A.one, splice, crRows_get hlt, crRows_len]
      refine ⟨by omega, by omega, ?_⟩
      refine W_reg ?_
      simp only [xs, xl, argS, reduceIte, Nat.reduceEqDiff, Nat.reduceAdd, Nat.reduceLT, Nat.reduceLeDiff, A.okCells, A.cells, A.one, splice, ceRows_length, hli]
      refine W_reg ?_
      simp only [xs, xl, argS, reduceIte, Nat.reduceEqDiff, Nat.reduceAdd, Nat.reduceLT, Nat.reduceLeDiff, A.okCells, A.cells, A.one, splice]
      refine ⟨ls.length - (i + 1), S2 (i + 1), by omega, Co.keep _ ?_, i + 1, hlt, rfl, rfl⟩
      simp [x_upd, x_look, i64_succ hlt (show ls.length ≤ room by simp only [room]; omega)]
    · simp only [xs, xl, argS, reduceIte, Nat.reduceEqDiff, Nat.reduceAdd, Nat.reduceLT, Nat.reduceLeDiff, A.okCells, A.cells, A.one, splice]
      refine W_seq (W_reg ?_)
      simp only [xs, xl, argS, reduceIte, Nat.reduceEqDiff, Nat.reduceAdd, Nat.reduceLT, Nat.reduceLeDiff, A.okCells, A.cells, A.one, splice]
      refine W_ret (.frz ?_)
      simp only [xs, xl, argS, reduceIte, Nat.reduceEqDiff, Nat.reduceAdd, Nat.reduceLT, Nat.reduceLeDiff, A.okCells, A.cells, A.one, splice, hnil]
      exact .d (.nil _)
  · refine W_seq (W_reg ?_)
    simp only [xs, xl, argS, reduceIte, Nat.reduceEqDiff, Nat.reduceAdd, Nat.reduceLT, Nat.reduceLeDiff, A.okCells, A.cells, A.one, splice]
    refine ce_fn (Hg _ h0 hlf _) ?_
    simp only [xs, xl, argS, reduceIte, Nat.reduceEqDiff, Nat.reduceAdd, Nat.reduceLT, Nat.reduceLeDiff, A.okCells, A.cells, A.one, splice]
    let cB : List Ce → List (List A) := fun o => (ceRows o).map fun r => r.map A.d
    have hcl : ∀ o, (cB o).length = o.length := fun o => by simp [cB, ceRows]
    let S2 : Nat → St := fun i => ⟨look [(6, .ref 0 (catC ls i).length 0 (catC ls i).length true), (25, .d (.sl eRw (crRows ls))), (26, .int ls.length), (27, .int i)], [.cells eCe (cB (catC ls i))]⟩
    have hc0 : catC ls 0 = [] := by simp [catC]
    refine W_seq (W_seq (W_reg ?_))
    simp only [xs, xl, argS, reduceIte, Nat.reduceEqDiff, Nat.reduceAdd, Nat.reduceLT, Nat.reduceLeDiff, A.okCells, A.cells, A.one, splice, crRows_len]
    refine W_block ?_
    refine W_co (s' := S2 0) (by simp only [S2, hc0]; exact Co.keep _ (by simp [x_upd, x_look])) ?_
    refine W_loop (fun m s => ∃ i, i ≤ ls.length ∧ m = ls.length - i ∧ s = S2 i) ⟨0, Nat.zero_le _, rfl, rfl⟩ ?_
    rintro m s ⟨i, hi, rfl, rfl⟩
    refine W_seq (W_reg ?_)
    simp only [S2, xs, xl, argS, reduceIte, Nat.reduceEqDiff, Nat.reduceAdd, Nat.reduceLT, Nat.reduceLeDiff, A.okCells, A.cells, A.one, splice]
    refine W_seq (W_cond rfl (fun hc => W_skip ?_) (fun hc => W_exit ?_))
    · have hlt : i < ls.length := by simpa using hc
      have hsz := catC_succ hlt
      have hle := catC_le (ls := ls) (i := i + 1)
      have hcs : cB (catC ls i) ++ ((ceRows ls[i]).map fun r => r.map A.d) = cB (catC ls (i + 1)) := by rw [hsz]; simp [cB, ceRows]
      have hll : (catC ls i).length + ls[i].length = (catC ls (i + 1)).length := by rw [hsz, List.length_append]
      simp only [xs, xl, argS, reduceIte, Nat.reduceEqDiff, Nat.reduceAdd, Nat.reduceLT, Nat.reduceLeDiff, A.okCells, A.cells, A.one, splice]
      refine W_seq (W_block (W_seq (W_reg ?_)))
      simp only [xs, xl, argS, reduceIte, Nat.reduceEqDiff, Nat.reduceAdd, Nat.reduceLT, Nat.reduceLeDiff, A.okCells, A.cells, A.one, splice, crRows_get hlt, crRows_len]
      refine ⟨by omega, by omega, ?_⟩
      refine W_reg ?_
      simp only [xs, xl, argS, reduceIte, Nat.reduceEqDiff, Nat.reduceAdd, Nat.reduceLT, Nat.reduceLeDiff, A.okCells, A.cells, A.one, splice, ceRows_length, hcl, hcs, hll]
      refine ⟨by simp only [room]; omega, by simp only [maxLen]; omega, ?_⟩
      refine W_reg ?_
      simp only [xs, xl, argS, reduceIte, Nat.reduceEqDiff, Nat.reduceAdd, Nat.reduceLT, Nat.reduceLeDiff, A.okCells, A.cells, A.one, splice]
      refine ⟨ls.length - (i + 1), S2 (i + 1), by omega, Co.keep _ ?_, i + 1, hlt, rfl, rfl⟩
      simp [x_upd, x_look, i64_succ hlt (show ls.length ≤ room by simp only [room]; omega)]
    · have hle : i = ls.length := by simp at hc; omega
      subst hle
      simp only [xs, xl, argS, reduceIte, Nat.reduceEqDiff, Nat.reduceAdd, Nat.reduceLT, Nat.reduceLeDiff, A.okCells, A.cells, A.one, splice, hfl]
      refine W_seq (W_reg ?_)
      simp only [xs, xl, argS, reduceIte, Nat.reduceEqDiff, Nat.reduceAdd, Nat.reduceLT, Nat.reduceLeDiff, A.okCells, A.cells, A.one, splice]
      refine W_ret (.frz ?_)
      simp only [xs, xl, argS, reduceIte, Nat.reduceEqDiff, Nat.reduceAdd, Nat.reduceLT, Nat.reduceLeDiff, A.okCells, A.cells, A.one, splice]
      have := frz_all (id := 0) (full := true) (e := eCe) (rows := ceRows ls.flatten) (h := [.cells eCe (cB ls.flatten)]) rfl
      rw [ceRows_length] at this
      exact this

theorem concatD_fn {f fg : FuncId} {Δ : Ctx} (H : FnIs P f N [.t 2] (x_slices_Concat_750 fg)) (hN : 1 ≤ N) (Hg : ∀ n : Nat, 0 < n → n ≤ 100000 → ∀ h, FnD Δ P fg [.nil, .int n] h (.ref h.length 0 0 0 true) (h ++ [.cells eCe []]))
    (ls : List (List Ce)) (hl : ls.length ≤ 1000) (hlf : ls.flatten.length ≤ 100000) (h0 : 0 < ls.flatten.length) (h : Heap) (hb : Δ.b ≤ h.length) : FnD Δ P f [.d (.sl eRw (crRows ls))] h (.ref h.length ls.flatten.length 0 ls.flatten.length true) (h ++ [ceB' ls.flatten]) := by
  refine .of_W H (by simpa using hN) hb ?_
  have hfl : catC ls ls.length = ls.flatten := by simp [catC]
  unfold x_slices_Concat_750
  refine W_seq (W_reg ?_)
  simp only [xs, xl, argS, reduceIte, Nat.reduceEqDiff, Nat.reduceAdd, Nat.reduceLT, Nat.reduceLeDiff, A.okCells, A.cells, A.one, splice]
  refine W_seq (W_reg ?_)
  simp only [xs, xl, argS, reduceIte, Nat.reduceEqDiff, Nat.reduceAdd, Nat.reduceLT, Nat.reduceLeDiff, A.okCells, A.cells, A.one, splice]
  let S1 : Nat → St := fun i => ⟨look [(0, .d (.sl eRw (crRows ls))), (3, .int (catC ls i).length), (9, .d (.sl eRw (crRows ls))), (10, .int ls.length), (11, .int i)], h⟩
  let T1 : St := ⟨look [(0, .d (.sl eRw (crRows ls))), (3, .int ls.flatten.length)], h⟩
  refine W_cut (· = T1) ?_ ?_
  · refine W_seq (W_reg ?_)
    simp only [xs, xl, argS, reduceIte, Nat.reduceEqDiff, Nat.reduceAdd, Nat.reduceLT, Nat.reduceLeDiff, A.okCells, A.cells, A.one, splice, crRows_len]
    refine W_block ?_
    refine W_co (s' := S1 0) (Co.keep _ (by simp [x_upd, x_look, catC])) ?_
    refine W_loop (fun m s => ∃ i, i ≤ ls.length ∧ m = ls.length - i ∧ s = S1 i) ⟨0, Nat.zero_le _, rfl, rfl⟩ ?_
    rintro m s ⟨i, hi, rfl, rfl⟩
    refine W_seq (W_reg ?_)
    simp only [S1, xs, xl, argS, reduceIte, Nat.reduceEqDiff, Nat.reduceAdd, Nat.reduceLT, Nat.reduceLeDiff, A.okCells, A.cells, A.one, splice]
    refine W_seq (W_cond rfl (fun hc => W_skip ?_) (fun hc => W_exit ?_))
    · have hlt : i < ls.length := by simpa using hc
      have hsz := catC_succ hlt
      have hle := catC_le (ls := ls) (i := i + 1)
      have e1 : IntKind.i64.wrap (((catC ls i).length : Int) + (ls[i].length : Int)) = ((catC ls (i + 1)).length : Int) := by
        rw [hsz, List.length_append] at *
        rw [i64_of (by omega)]; omega
      have e2 : decide (((catC ls (i + 1)).length : Int) < 0) = false := decide_eq_false (by omega)
      simp only [xs, xl, argS, reduceIte, Nat.reduceEqDiff, Nat.reduceAdd, Nat.reduceLT, Nat.reduceLeDiff, A.okCells, A.cells, A.one, splice]
      refine W_seq (W_block (W_seq (W_reg ?_)))
      simp only [xs, xl, argS, reduceIte, Nat.reduceEqDiff, Nat.reduceAdd, Nat.reduceLT, Nat.reduceLeDiff, A.okCells, A.cells, A.one, splice, crRows_get hlt, crRows_len]
      refine ⟨by omega, by omega, ?_⟩
      refine W_seq (W_reg ?_)
      simp only [xs, xl, argS, reduceIte, Nat.reduceEqDiff, Nat.reduceAdd, Nat.reduceLT, Nat.reduceLeDiff, A.okCells, A.cells, A.one, splice, ceRows_length, e1]
      refine W_seq (W_reg ?_)
      simp only [xs, xl, argS, reduceIte, Nat.reduceEqDiff, Nat.reduceAdd, Nat.reduceLT, Nat.reduceLeDiff, A.okCells, A.cells, A.one, splice, e2]
      refine W_cond rfl (fun hd => by cases hd) (fun _ => W_skip ?_)
      simp only [xs, xl, argS, reduceIte, Nat.reduceEqDiff, Nat.reduceAdd, Nat.reduceLT, Nat.reduceLeDiff, A.okCells, A.cells, A.one, splice]
      refine W_reg ?_
      simp only [xs, xl, argS, reduceIte, Nat.reduceEqDiff, Nat.reduceAdd, Nat.reduceLT, Nat.reduceLeDiff, A.okCells, A.cells, A.one, splice]
      refine ⟨ls.length - (i + 1), S1 (i + 1), by omega, Co.keep _ ?_, i + 1, hlt, rfl, rfl⟩
      simp [x_upd, x_look, i64_succ hlt (show ls.length ≤ room by simp only [room]; omega)]
    · have hle : i = ls.length := by simp at hc; omega
      subst hle
      simp only [xs, xl, argS, reduceIte, Nat.reduceEqDiff, Nat.reduceAdd, Nat.reduceLT, Nat.reduceLeDiff, A.okCells, A.cells, A.one, splice]
      refine ⟨T1, ?_, rfl⟩
      simp only [T1, hfl]
      exact Co.keep _ (by simp [x_upd, x_look])
  rintro _ rfl
  simp only [T1]
  refine W_seq (W_reg ?_)
  simp only [xs, xl, argS, reduceIte, Nat.reduceEqDiff, Nat.reduceAdd, Nat.reduceLT, Nat.reduceLeDiff, A.okCells, A.cells, A.one, splice]
  refine ce_fn (Hg _ h0 hlf _) ?_
  simp only [xs, xl, argS, reduceIte, Nat.reduceEqDiff, Nat.reduceAdd, Nat.reduceLT, Nat.reduceLeDiff, A.okCells, A.cells, A.one, splice]
  let cB : List Ce → List (List A) := fun o => (ceRows o).map fun r => r.map A.d
  have hcl : ∀ o, (cB o).length = o.length := fun o => by simp [cB, ceRows]
  let S2 : Nat → St := fun i => ⟨look [(6, .ref h.length (catC ls i).length 0 (catC ls i).length true), (25, .d (.sl eRw (crRows ls))), (26, .int ls.length), (27, .int i)], h ++ [.cells eCe (cB (catC ls i))]⟩
  have hc0 : catC ls 0 = [] := by simp [catC]
  refine W_seq (W_seq (W_reg ?_))
  simp only [xs, xl, argS, reduceIte, Nat.reduceEqDiff, Nat.reduceAdd, Nat.reduceLT, Nat.reduceLeDiff, A.okCells, A.cells, A.one, splice, crRows_len]
  refine W_block ?_
  refine W_co (s' := S2 0) (by simp only [S2, hc0]; exact Co.keep _ (by simp [x_upd, x_look])) ?_
  refine W_loop (fun m s => ∃ i, i ≤ ls.length ∧ m = ls.length - i ∧ s = S2 i) ⟨0, Nat.zero_le _, rfl, rfl⟩ ?_
  rintro m s ⟨i, hi, rfl, rfl⟩
  refine W_seq (W_reg ?_)
  simp only [S2, xs, xl, argS, reduceIte, Nat.reduceEqDiff, Nat.reduceAdd, Nat.reduceLT, Nat.reduceLeDiff, A.okCells, A.cells, A.one, splice]
  refine W_seq (W_cond rfl (fun hc => W_skip ?_) (fun hc => W_exit ?_))
  · have hlt : i < ls.length := by simpa using hc
    have hsz := catC_succ hlt
    have hle := catC_le (ls := ls) (i := i + 1)
    have hcs : cB (catC ls i) ++ ((ceRows ls[i]).map fun r => r.map A.d) = cB (catC ls (i + 1)) := by rw [hsz]; simp [cB, ceRows]
    have hll : (catC ls i).length + ls[i].length = (catC ls (i + 1)).length := by rw [hsz, List.length_append]
    simp only [xs, xl, argS, reduceIte, Nat.reduceEqDiff, Nat.reduceAdd, Nat.reduceLT, Nat.reduceLeDiff, A.okCells, A.cells, A.one, splice]
    refine W_seq (W_block (W_seq (W_reg ?_)))
    simp only [xs, xl, argS, reduceIte, Nat.reduceEqDiff, Nat.reduceAdd, Nat.reduceLT, Nat.reduceLeDiff, A.okCells, A.cells, A.one, splice, crRows_get hlt, crRows_len]
    refine ⟨by omega, by omega, ?_⟩
    refine W_reg ?_
    simp only [xs, xl, argS, reduceIte, Nat.reduceEqDiff, Nat.reduceAdd, Nat.reduceLT, Nat.reduceLeDiff, A.okCells, A.cells, A.one, splice, hp_g0, hp_s0, ceRows_length, hcl, hcs, hll]
    refine ⟨by simp only [room]; omega, by simp only [maxLen]; omega, ?_⟩
    refine W_reg ?_
    simp only [xs, xl, argS, reduceIte, Nat.reduceEqDiff, Nat.reduceAdd, Nat.reduceLT, Nat.reduceLeDiff, A.okCells, A.cells, A.one, splice]
    refine ⟨ls.length - (i + 1), S2 (i + 1), by omega, Co.keep _ ?_, i + 1, hlt, rfl, rfl⟩
    simp [x_upd, x_look, i64_succ hlt (show ls.length ≤ room by simp only [room]; omega)]
  · have hle : i = ls.length := by simp at hc; omega
    subst hle
    simp only [xs, xl, argS, reduceIte, Nat.reduceEqDiff, Nat.reduceAdd, Nat.reduceLT, Nat.reduceLeDiff, A.okCells, A.cells, A.one, splice, hfl]
    refine W_seq (W_reg ?_)
    simp only [xs, xl, argS, reduceIte, Nat.reduceEqDiff, Nat.reduceAdd, Nat.reduceLT, Nat.reduceLeDiff, A.okCells, A.cells, A.one, splice]
    refine W_ret ⟨.inr rfl, ?_⟩
    simp only [readRs, readR, single, x_upd, reduceIte, Nat.reduceEqDiff, x_look, xs, xl, argS, reduceIte, Nat.reduceEqDiff, Nat.reduceAdd, Nat.reduceLT, Nat.reduceLeDiff, A.okCells, A.cells, A.one, splice]
    rfl

end Go.Proofs.YtckglkbbdbmdkaaDoor.Nx

namespace Go.Proofs.YtckglkbbdbmdkaaDoor.Nx
set_option linter.unusedSimpArgs false
set_option linter.unusedVariables false
set_option linter.unnecessarySimpa false
open Go

variable {P : Program} {N : Nat} {Γ : Tabs}

theorem ceB_get {l : List Ce} {i : Nat} (hi : i < l.length) : ((ceRows l).map fun r => r.map A.d)[i]? = some (l[i].row.map .d) := by simp [ceRows, hi]
theorem ceB_set {l : List Ce} {i : Nat} {c : Ce} : ((ceRows l).map fun r => r.map A.d).set i (c.row.map .d) = (ceRows (l.set i c)).map fun r => r.map A.d := by simp [ceRows, List.map_set]

theorem set_same {h : Heap} {id : Nat} {X : HB} (hh : h[id]? = some X) : h.set id X = h := by
  apply List.ext_getElem?
  intro i
  rw [List.getElem?_set]
  split
  · rename_i e; subst e; rw [hh, if_pos (List.getElem?_eq_some_iff.1 hh).1]
  · rfl

set_option maxHeartbeats 1000000 in
theorem halve_fn {f fb : FuncId} {Δ : Ctx} (H : FnIs P f N [] (x_cellrow_halve fb)) (hN : 2 ≤ N) (Hb : ∀ b, FnP Δ.t P fb [.int b] (ceA (blankC b))) (l : List Ce) (c : Nat) (hl : l.length ≤ 100000) (hcl : c ≤ 100000) (id : Nat) (h : Heap) (hb : Δ.b ≤ h.length) (hh : h[id]? = some (ceB' l)) :
    FnD Δ P f [.ref id l.length 0 l.length true, .int c] h (.tup []) (h.set id (ceB' (hlv l c))) := by
  have hid : id < h.length := (List.getElem?_eq_some_iff.1 hh).1
  have hs : ∀ X, (h.set id X)[id]? = some X := fun X => List.getElem?_set_self hid
  have hsame : h.set id (ceB' l) = h := set_same hh
  refine .of_W H (by simpa using hN) hb ?_
  unfold x_cellrow_halve
  let U : Bool → St := fun t => ⟨look [(0, .ref id l.length 0 l.length true), (1, .int c), (20, .bool t)], h⟩
  refine (W_cutX (· = U (decide (cutAt l c))) rfl (fun K hK => ?_) ?_)
  · by_cases h1 : 0 < c
    · have e1 : decide ((0 : Int) < (c : Int)) = true := by simp; omega
      by_cases h2 : c < l.length
      · have e2 : decide ((c : Int) < (l.length : Int)) = true := by simp; omega
        have e3 : decide (cutAt l c) = decide (l[c].width = 0) := by
          rw [Bool.eq_iff_iff]; simp only [decide_eq_true_eq, cutAt, List.getElem?_eq_getElem h2, Option.map_some, Option.some.injEq]
          exact ⟨fun k => k.2, fun k => ⟨h1, k⟩⟩
        simp only [xs, xl, argS, reduceIte, Nat.reduceEqDiff, Nat.reduceAdd, Nat.reduceLT, Nat.reduceLeDiff, A.okCells, A.cells, A.one, splice, hh, ceB'_len, ceRows_length, e1, e2, ceB_get h2, Ce.row, Int.toNat_natCast]
        refine ⟨by omega, by omega, ?_⟩
        exact hK _ _ (Co.keep _ (by simp [x_upd, x_look, e3])) rfl
      · have e2 : decide ((c : Int) < (l.length : Int)) = false := by simp; omega
        have e3 : decide (cutAt l c) = false := decide_eq_false fun k => h2 (cutAt_lt k)
        simp only [xs, xl, argS, reduceIte, Nat.reduceEqDiff, Nat.reduceAdd, Nat.reduceLT, Nat.reduceLeDiff, A.okCells, A.cells, A.one, splice, hh, ceB'_len, ceRows_length, e1, e2]
        exact hK _ _ (Co.keep _ (by simp [x_upd, x_look, e3])) rfl
    · have e1 : decide ((0 : Int) < (c : Int)) = false := by simp; omega
      have e3 : decide (cutAt l c) = false := decide_eq_false fun k => h1 k.1
      simp only [xs, xl, argS, reduceIte, Nat.reduceEqDiff, Nat.reduceAdd, Nat.reduceLT, Nat.reduceLeDiff, A.okCells, A.cells, A.one, splice, e1]
      exact hK _ _ (Co.keep _ (by simp [x_upd, x_look, e3])) rfl
  rintro _ rfl
  refine W_cond rfl (fun hc => ?_) (fun hc => W_skip ?_)
  · have hc : cutAt l c := of_decide_eq_true hc
    have h2 := cutAt_lt hc
    have h1 := hc.1
    have w1 : IntKind.i64.wrap ((c : Int) - 1) = ((c - 1 : Nat) : Int) := by rw [i64_of (by omega)]; omega
    have hbk : backAt l c = l[c].back := by unfold backAt; rw [List.getElem?_eq_getElem h2]; rfl
    have hres : hlv l c = (l.set (c - 1) (blankC l[c].back)).set c (blankC l[c].back) := by rw [hlv, if_pos hc, hbk]
    simp only [U]
    refine W_seq (W_reg ?_); simp only [xs, xl, argS, reduceIte, Nat.reduceEqDiff, Nat.reduceAdd, Nat.reduceLT, Nat.reduceLeDiff, A.okCells, A.cells, A.one, splice, hh, ceB'_len, ceRows_length, ceB_get h2, Ce.row, Int.toNat_natCast]
    refine ⟨by omega, by omega, ?_⟩
    refine W_reg ?_; simp only [xs, xl, argS, reduceIte, Nat.reduceEqDiff, Nat.reduceAdd, Nat.reduceLT, Nat.reduceLeDiff, A.okCells, A.cells, A.one, splice, w1]
    refine c_fn (Hb _) rfl ?_
    simp only [xs, xl, argS, reduceIte, Nat.reduceEqDiff, Nat.reduceAdd, Nat.reduceLT, Nat.reduceLeDiff, A.okCells, A.cells, A.one, splice]
    refine c_fn (Hb _) rfl ?_
    have g1 := ceB_get (l := l) (i := c - 1) (by omega)
    have g2 := ceB_get (l := l.set (c - 1) (blankC l[c].back)) (i := c) (by simpa using h2)
    have s1 := ceB_set (l := l) (i := c - 1) (c := blankC l[c].back)
    have s2 := ceB_set (l := l.set (c - 1) (blankC l[c].back)) (i := c) (c := blankC l[c].back)
    simp only [ceA, blankC, Ce.row, List.map_cons, List.map_nil] at s1 s2 g1 g2 ⊢
    simp only [xs, xl, argS, reduceIte, Nat.reduceEqDiff, Nat.reduceAdd, Nat.reduceLT, Nat.reduceLeDiff, A.okCells, A.cells, A.one, splice, hh, hs, ceB'_len, ceRows_length, Int.toNat_natCast, g1, s1, g2, s2, List.set_set, List.length_set]
    refine ⟨by omega, by omega, by omega, by omega, ⟨.inl rfl, ?_⟩⟩
    simp only [readRs, single, true_and, hres, blankC]
  · have hc : ¬ cutAt l c := of_decide_eq_false hc
    refine ⟨.inl rfl, ?_⟩
    simp only [readRs, single, U, hlv_no hc, true_and]
    exact hsame.symm

set_option maxHeartbeats 1000000 in
theorem separate_fn {f fb : FuncId} {Δ : Ctx} (H : FnIs P f N [] (x_ref07_separate fb)) (hN : 2 ≤ N) (Hb : ∀ b, FnP Δ.t P fb [.int b] (ceA (blankC b))) (l : List Ce) (ho : okR l) (c : Nat) (hl : l.length ≤ 100000) (hcl : c ≤ 100000) (id : Nat) (h : Heap) (hb : Δ.b ≤ h.length) (hh : h[id]? = some (ceB' l)) :
    FnD Δ P f [.ref id l.length 0 l.length true, .int c] h (.tup []) (h.set id (ceB' (hlv l c))) := by
  have hid : id < h.length := (List.getElem?_eq_some_iff.1 hh).1
  have hs : ∀ X, (h.set id X)[id]? = some X := fun X => List.getElem?_set_self hid
  have hsame : h.set id (ceB' l) = h := set_same hh
  refine .of_W H (by simpa using hN) hb ?_
  unfold x_ref07_separate
  let U : Bool → St := fun t => ⟨look [(0, .ref id l.length 0 l.length true), (1, .int c), (19, .bool t)], h⟩
  refine (W_cutX (· = U (decide (cutAt l c))) rfl (fun K hK => ?_) ?_)
  · by_cases h1 : 0 < c
    · have e1 : decide ((0 : Int) < (c : Int)) = true := by simp; omega
      by_cases h2 : c < l.length
      · have e2 : decide ((c : Int) < (l.length : Int)) = true := by simp; omega
        have e3 : decide (cutAt l c) = decide (l[c].width = 0) := by
          rw [Bool.eq_iff_iff]; simp only [decide_eq_true_eq, cutAt, List.getElem?_eq_getElem h2, Option.map_some, Option.some.injEq]
          exact ⟨fun k => k.2, fun k => ⟨h1, k⟩⟩
        simp only [xs, xl, argS, reduceIte, Nat.reduceEqDiff, Nat.reduceAdd, Nat.reduceLT, Nat.reduceLeDiff, A.okCells, A.cells, A.one, splice, hh, ceB'_len, ceRows_length, e1, e2, ceB_get h2, Ce.row, Int.toNat_natCast]
        refine ⟨by omega, by omega, ?_⟩
        exact hK _ _ (Co.keep _ (by simp [x_upd, x_look, e3])) rfl
      · have e2 : decide ((c : Int) < (l.length : Int)) = false := by simp; omega
        have e3 : decide (cutAt l c) = false := decide_eq_false fun k => h2 (cutAt_lt k)
        simp only [xs, xl, argS, reduceIte, Nat.reduceEqDiff, Nat.reduceAdd, Nat.reduceLT, Nat.reduceLeDiff, A.okCells, A.cells, A.one, splice, hh, ceB'_len, ceRows_length, e1, e2]
        exact hK _ _ (Co.keep _ (by simp [x_upd, x_look, e3])) rfl
    · have e1 : decide ((0 : Int) < (c : Int)) = false := by simp; omega
      have e3 : decide (cutAt l c) = false := decide_eq_false fun k => h1 k.1
      simp only [xs, xl, argS, reduceIte, Nat.reduceEqDiff, Nat.reduceAdd, Nat.reduceLT, Nat.reduceLeDiff, A.okCells, A.cells, A.one, splice, e1]
      exact hK _ _ (Co.keep _ (by simp [x_upd, x_look, e3])) rfl
  rintro _ rfl
  refine W_cond rfl (fun hc => ?_) (fun hc => W_skip ?_)
  · have hc : cutAt l c := of_decide_eq_true hc
    have h2 := cutAt_lt hc
    have h1 := hc.1
    have h3 : c - 1 < l.length := by omega
    have w1 : IntKind.i64.wrap ((c : Int) - 1) = ((c - 1 : Nat) : Int) := by rw [i64_of (by omega)]; omega
    have hbk : backAt l c = l[c].back := by unfold backAt; rw [List.getElem?_eq_getElem h2]; rfl
    have hbp : l[c - 1].back = l[c].back := by
      have := backAt_prev ho hc
      unfold backAt at this
      rw [List.getElem?_eq_getElem h2, List.getElem?_eq_getElem h3] at this
      simpa using this
    have hres : hlv l c = (l.set (c - 1) (blankC l[c].back)).set c (blankC l[c].back) := by rw [hlv, if_pos hc, hbk]
    simp only [U]
    have g1 := ceB_get (l := l) (i := c - 1) (by omega)
    have g2 := ceB_get (l := l.set (c - 1) (blankC l[c].back)) (i := c) (by simpa using h2)
    have e4 : (l.set (c - 1) (blankC l[c].back))[c]'(by simpa using h2) = l[c] := by rw [List.getElem_set_ne (by omega)]
    rw [e4] at g2
    have s1 := ceB_set (l := l) (i := c - 1) (c := blankC l[c].back)
    have s2 := ceB_set (l := l.set (c - 1) (blankC l[c].back)) (i := c) (c := blankC l[c].back)
    refine W_seq (W_reg ?_); simp only [xs, xl, argS, reduceIte, Nat.reduceEqDiff, Nat.reduceAdd, Nat.reduceLT, Nat.reduceLeDiff, A.okCells, A.cells, A.one, splice, hh, ceB'_len, ceRows_length, g1, Ce.row, Int.toNat_natCast, w1, hbp]
    refine ⟨by omega, by omega, ?_⟩
    refine c_fn (Hb _) rfl ?_
    simp only [ceA, blankC, Ce.row, List.map_cons, List.map_nil] at s1 s2 g1 g2 ⊢
    simp only [xs, xl, argS, reduceIte, Nat.reduceEqDiff, Nat.reduceAdd, Nat.reduceLT, Nat.reduceLeDiff, A.okCells, A.cells, A.one, splice, hh, hs, ceB'_len, ceRows_length, Int.toNat_natCast, g1, s1]
    refine ⟨by omega, by omega, ?_⟩
    refine W_reg ?_; simp only [xs, xl, argS, reduceIte, Nat.reduceEqDiff, Nat.reduceAdd, Nat.reduceLT, Nat.reduceLeDiff, A.okCells, A.cells, A.one, splice, hs, ceB'_len, ceRows_length, Int.toNat_natCast, g2, List.length_set]
    refine ⟨by omega, by omega, ?_⟩
    refine c_fn (Hb _) rfl ?_
    simp only [ceA, blankC, Ce.row, List.map_cons, List.map_nil]
    simp only [xs, xl, argS, reduceIte, Nat.reduceEqDiff, Nat.reduceAdd, Nat.reduceLT, Nat.reduceLeDiff, A.okCells, A.cells, A.one, splice, hs, ceB'_len, ceRows_length, Int.toNat_natCast, g2, s2, List.set_set, List.length_set]
    refine ⟨by omega, by omega, ⟨.inl rfl, ?_⟩⟩
    simp only [readRs, single, true_and, hres, blankC]
  · have hc : ¬ cutAt l c := of_decide_eq_false hc
    refine ⟨.inl rfl, ?_⟩
    simp only [readRs, single, U, hlv_no hc, true_and]
    exact hsame.symm

/-! ### open -/
/-- What open answers: a block of its own behind the caller's. -/
def openA (l : List Ce) (col last : Int) (k : Nat) : A := if checkR l ≠ 0 then .tup [.nil, .int 1] else if col < 0 ∨ last < col then .tup [.nil, .int 2] else .tup [.ref k l.length 0 l.length true, .int 0]
def openH (l : List Ce) (col last : Int) : Heap := if checkR l ≠ 0 then [] else if col < 0 ∨ last < col then [] else [ceB' l]

theorem open_fn {f fck fcl : FuncId} {Δ : Ctx} {Nc : Nat} (H : FnIs P f N [.t 6, .t 7] (x_cellrow_open fck fcl)) (hN : 3 ≤ N) (Hcl : FnIs P fcl Nc [.t 2] x_slices_Clone_750) (hNc : 1 ≤ Nc) (l : List Ce)
    (Hck : FnP Δ.t P fck [.d (.sl eCe (ceRows l))] (.int (checkR l))) (col last : Int) (h : Heap) (hb : Δ.b ≤ h.length) :
    FnD Δ P f [.d (.sl eCe (ceRows l)), .int col, .int last] h (openA l col last h.length) (h ++ openH l col last) := by
  refine .of_W H (by simpa using hN) hb ?_
  unfold x_cellrow_open
  refine W_seq (W_reg ?_); simp only [xs, xl, argS, reduceIte, Nat.reduceEqDiff, Nat.reduceAdd, Nat.reduceLT, Nat.reduceLeDiff, A.okCells, A.cells, A.one, splice]
  refine W_seq ?_
  refine W_seq (W_reg ?_); simp only [xs, xl, argS, reduceIte, Nat.reduceEqDiff, Nat.reduceAdd, Nat.reduceLT, Nat.reduceLeDiff, A.okCells, A.cells, A.one, splice]
  refine c_fn Hck rfl ?_
  simp only [xs, xl, argS, reduceIte, Nat.reduceEqDiff, Nat.reduceAdd, Nat.reduceLT, Nat.reduceLeDiff, A.okCells, A.cells, A.one, splice]
  refine W_cond rfl (fun hc => ?_) (fun hc => W_skip ?_)
  · have hc : checkR l ≠ 0 := by simpa using hc
    refine W_seq (W_reg ?_); simp only [xs, xl, argS, reduceIte, Nat.reduceEqDiff, Nat.reduceAdd, Nat.reduceLT, Nat.reduceLeDiff, A.okCells, A.cells, A.one, splice]
    refine W_ret ⟨.inr rfl, ?_⟩
    simp only [readRs, readR, single, x_upd, reduceIte, Nat.reduceEqDiff, x_look, argS, xs, xl, argS, reduceIte, Nat.reduceEqDiff, Nat.reduceAdd, Nat.reduceLT, Nat.reduceLeDiff, A.okCells, A.cells, A.one, splice, loadsTo, openA, openH, if_pos hc]
  have hc : checkR l = 0 := by simpa using hc
  have hcn : ¬ checkR l ≠ 0 := fun k => k hc
  simp only [xs, xl, argS, reduceIte, Nat.reduceEqDiff, Nat.reduceAdd, Nat.reduceLT, Nat.reduceLeDiff, A.okCells, A.cells, A.one, splice]
  let U : St := ⟨look [(0, .d (.sl eCe (ceRows l))), (17, .bool (decide (col < 0 ∨ last < col)))], h⟩
  refine W_seq (W_cutX (· = U) rfl (fun K hK => ?_) ?_)
  · cases e : decide (col < 0)
    · simp only [xs, xl, argS, reduceIte, Nat.reduceEqDiff, Nat.reduceAdd, Nat.reduceLT, Nat.reduceLeDiff, A.okCells, A.cells, A.one, splice, e]
      exact hK _ _ (Co.keep _ (by simp only [decide_eq_false_iff_not] at e; simp [x_upd, x_look, e])) rfl
    · simp only [xs, xl, argS, reduceIte, Nat.reduceEqDiff, Nat.reduceAdd, Nat.reduceLT, Nat.reduceLeDiff, A.okCells, A.cells, A.one, splice, e]
      exact hK _ _ (Co.keep _ (by simp only [decide_eq_true_eq] at e; simp [x_upd, x_look, e])) rfl
  rintro _ rfl
  refine W_cond rfl (fun hd => ?_) (fun hd => W_skip ?_)
  · have hd : col < 0 ∨ last < col := by simpa using hd
    refine W_seq (W_reg ?_); simp only [xs, xl, argS, reduceIte, Nat.reduceEqDiff, Nat.reduceAdd, Nat.reduceLT, Nat.reduceLeDiff, A.okCells, A.cells, A.one, splice, U]
    refine W_ret ⟨.inr rfl, ?_⟩
    simp only [readRs, readR, single, x_upd, reduceIte, Nat.reduceEqDiff, x_look, argS, xs, xl, argS, reduceIte, Nat.reduceEqDiff, Nat.reduceAdd, Nat.reduceLT, Nat.reduceLeDiff, A.okCells, A.cells, A.one, splice, loadsTo, openA, openH, if_neg hcn, if_pos hd]
  have hd : ¬ (col < 0 ∨ last < col) := by simpa using hd
  have hne : l ≠ [] := by rintro rfl; cases hc
  simp only [U, xs, xl, argS, reduceIte, Nat.reduceEqDiff, Nat.reduceAdd, Nat.reduceLT, Nat.reduceLeDiff, A.okCells, A.cells, A.one, splice]
  refine W_seq (W_reg ?_); simp only [xs, xl, argS, reduceIte, Nat.reduceEqDiff, Nat.reduceAdd, Nat.reduceLT, Nat.reduceLeDiff, A.okCells, A.cells, A.one, splice]
  refine ce_fn (cloneD_fn Hcl hNc l hne h hb) ?_
  simp only [xs, xl, argS, reduceIte, Nat.reduceEqDiff, Nat.reduceAdd, Nat.reduceLT, Nat.reduceLeDiff, A.okCells, A.cells, A.one, splice]
  refine W_ret ⟨.inr rfl, ?_⟩
  simp only [readRs, readR, single, x_upd, reduceIte, Nat.reduceEqDiff, x_look, argS, xs, xl, argS, reduceIte, Nat.reduceEqDiff, Nat.reduceAdd, Nat.reduceLT, Nat.reduceLeDiff, A.okCells, A.cells, A.one, splice, loadsTo, openA, openH, if_neg hcn, if_neg hd]

end Go.Proofs.YtckglkbbdbmdkaaDoor.Nx

namespace Go.Proofs.YtckglkbbdbmdkaaDoor.Nx
set_option linter.unusedSimpArgs false
set_option linter.unusedVariables false
set_option linter.unnecessarySimpa false
open Go

variable {P : Program} {N : Nat} {Γ : Tabs}

/-- A row and an error. -/
def ceE (x : List Ce × Int) : A := .tup [.d (.sl eCe (ceRows x.1)), .int x.2]
theorem frz_ce {h : Heap} {x : A} {l : List Ce} {e : Int} (hx : FrzA 0 h x (.d (.sl eCe (ceRows l)))) : FrzA 0 h (.tup [x, .int e]) (ceE (l, e)) := by
  refine .tup rfl fun j y hj => ?_
  match j, hj with
  | 0, hj => simp at hj; subst hj; exact hx
  | 1, hj => simp at hj; subst hj; exact .same rfl
  | j + 2, hj => simp at hj
theorem frz_ceB {h : Heap} {id n : Nat} {l : List Ce} {e : Int} (hh : h[id]? = some (ceB' l)) (hn : n = l.length) : FrzA 0 h (.tup [.ref id n 0 n true, .int e]) (ceE (l, e)) := by
  subst hn
  refine frz_ce ?_
  have := frz_all (id := id) (full := true) (e := eCe) (rows := ceRows l) hh
  rw [ceRows_length] at this
  exact this

abbrev OpenOk (Γ : Tabs) (P : Program) (f : FuncId) : Prop := ∀ l : List Ce, smallR l → ∀ (col last : Int) (h : Heap), FnD Γ.ctx P f [.d (.sl eCe (ceRows l)), .int col, .int last] h (openA l col last h.length) (h ++ openH l col last)
abbrev HalveOk (Γ : Tabs) (P : Program) (f : FuncId) : Prop := ∀ l : List Ce, okR l → ∀ c : Nat, l.length ≤ 100000 → c ≤ 100000 → ∀ (id : Nat) (h : Heap), h[id]? = some (ceB' l) → FnD Γ.ctx P f [.ref id l.length 0 l.length true, .int c] h (.tup []) (h.set id (ceB' (hlv l c)))
abbrev PutOk (Γ : Tabs) (P : Program) (f : FuncId) : Prop := ∀ l : List Ce, smallR l → ∀ (col : Int) (s : ByteArray), s.size ≤ 1000 → ∀ a b c : Int, FnP Γ P f [.d (.sl eCe (ceRows l)), .int col, .str s, atA a b c] (ceE (putR l col ⟨s, widC s, a, b, c⟩))

theorem hlvs_succ {l : List Ce} {c n : Nat} : hlv (hlvs l c n) (c + n) = hlvs l c (n + 1) := rfl

set_option maxHeartbeats 1000000 in
theorem put_fn {f fo fck fw fh : FuncId} (H : FnIs P f N [.t 8, .t 9] (x_cellrow_Put fo fck fw fh)) (hN : 4 ≤ N) (Ho : OpenOk Γ P fo) (Hh : HalveOk Γ P fh)
    (Hck : ∀ s : ByteArray, s.size ≤ 1000 → FnP Γ P fck [.str s] (.int (chkC s))) (Hw : ∀ s : ByteArray, s.size ≤ 1000 → FnP Γ P fw [.str s] (.int (widC s))) : PutOk Γ P f := by
  intro l hs col s hss a b c
  refine .of_W H (by simpa using hN) (W_sl 0 rfl fun ⟨hm, _, _⟩ => ?_)
  rw [ceRows_length] at hm
  have w1 : IntKind.i64.wrap ((l.length : Int) - 1) = (l.length : Int) - 1 := i64_ofB (by simp only [maxLen] at hm; omega)
  unfold x_cellrow_Put
  refine W_seq (W_reg ?_); simp only [xs, xl, argS, reduceIte, Nat.reduceEqDiff, Nat.reduceAdd, Nat.reduceLT, Nat.reduceLeDiff, A.okCells, A.cells, A.one, splice]
  have hO := Ho l hs col ((l.length : Int) - 1) [atB a b c]
  by_cases hck : ¬ checkR l = 0
  · simp only [openA, openH, if_pos hck] at hO
    refine W_seq (W_reg ?_); simp only [xs, xl, argS, reduceIte, Nat.reduceEqDiff, Nat.reduceAdd, Nat.reduceLT, Nat.reduceLeDiff, A.okCells, A.cells, A.one, splice, ceRows_length, w1]
    refine ce_fn hO ?_
    simp only [xs, xl, argS, reduceIte, Nat.reduceEqDiff, Nat.reduceAdd, Nat.reduceLT, Nat.reduceLeDiff, A.okCells, A.cells, A.one, splice]
    refine W_seq ?_
    refine W_seq (W_reg ?_); simp only [xs, xl, argS, reduceIte, Nat.reduceEqDiff, Nat.reduceAdd, Nat.reduceLT, Nat.reduceLeDiff, A.okCells, A.cells, A.one, splice]
    refine W_cond rfl (fun _ => ?_) (fun hc => by simp at hc)
    refine W_seq (W_reg ?_); simp only [xs, xl, argS, reduceIte, Nat.reduceEqDiff, Nat.reduceAdd, Nat.reduceLT, Nat.reduceLeDiff, A.okCells, A.cells, A.one, splice]
    refine W_ret ⟨.inr rfl, ?_⟩
    simp only [readRs, readR, single, x_upd, reduceIte, Nat.reduceEqDiff, x_look, argS, xs, xl, argS, reduceIte, Nat.reduceEqDiff, Nat.reduceAdd, Nat.reduceLT, Nat.reduceLeDiff, A.okCells, A.cells, A.one, splice, loadsTo, putR, if_pos hck]
    exact frz_ce (.d (.nil _))
  by_cases hcol : col < 0 ∨ (l.length : Int) - 1 < col
  · simp only [openA, openH, if_neg hck, if_pos hcol] at hO
    refine W_seq (W_reg ?_); simp only [xs, xl, argS, reduceIte, Nat.reduceEqDiff, Nat.reduceAdd, Nat.reduceLT, Nat.reduceLeDiff, A.okCells, A.cells, A.one, splice, ceRows_length, w1]
    refine ce_fn hO ?_
    simp only [xs, xl, argS, reduceIte, Nat.reduceEqDiff, Nat.reduceAdd, Nat.reduceLT, Nat.reduceLeDiff, A.okCells, A.cells, A.one, splice]
    refine W_seq ?_
    refine W_seq (W_reg ?_); simp only [xs, xl, argS, reduceIte, Nat.reduceEqDiff, Nat.reduceAdd, Nat.reduceLT, Nat.reduceLeDiff, A.okCells, A.cells, A.one, splice]
    refine W_cond rfl (fun _ => ?_) (fun hc => by simp at hc)
    refine W_seq (W_reg ?_); simp only [xs, xl, argS, reduceIte, Nat.reduceEqDiff, Nat.reduceAdd, Nat.reduceLT, Nat.reduceLeDiff, A.okCells, A.cells, A.one, splice]
    refine W_ret ⟨.inr rfl, ?_⟩
    simp only [readRs, readR, single, x_upd, reduceIte, Nat.reduceEqDiff, x_look, argS, xs, xl, argS, reduceIte, Nat.reduceEqDiff, Nat.reduceAdd, Nat.reduceLT, Nat.reduceLeDiff, A.okCells, A.cells, A.one, splice, loadsTo, putR, if_neg hck, if_pos hcol]
    exact frz_ce (.d (.nil _))
  simp only [openA, openH, if_neg hck, if_neg hcol, List.length_cons, List.length_nil, List.cons_append, List.nil_append] at hO
  have hck0 : checkR l = 0 := Decidable.not_not.1 hck
  obtain ⟨hl1, hl2, hrk⟩ := ck_pos hck0
  obtain ⟨n, rfl⟩ : ∃ n : Nat, col = n := ⟨col.toNat, by omega⟩
  have hnl : n < l.length := by omega
  refine W_seq (W_reg ?_); simp only [xs, xl, argS, reduceIte, Nat.reduceEqDiff, Nat.reduceAdd, Nat.reduceLT, Nat.reduceLeDiff, A.okCells, A.cells, A.one, splice, ceRows_length, w1]
  refine ce_fn hO ?_
  simp only [xs, xl, argS, reduceIte, Nat.reduceEqDiff, Nat.reduceAdd, Nat.reduceLT, Nat.reduceLeDiff, A.okCells, A.cells, A.one, splice]
  refine W_seq ?_
  refine W_seq (W_reg ?_); simp only [xs, xl, argS, reduceIte, Nat.reduceEqDiff, Nat.reduceAdd, Nat.reduceLT, Nat.reduceLeDiff, A.okCells, A.cells, A.one, splice]
  refine W_cond rfl (fun hc => by simp at hc) (fun _ => W_skip ?_)
  simp only [xs, xl, argS, reduceIte, Nat.reduceEqDiff, Nat.reduceAdd, Nat.reduceLT, Nat.reduceLeDiff, A.okCells, A.cells, A.one, splice]
  refine W_seq ?_
  refine W_seq (W_reg ?_); simp only [xs, xl, argS, reduceIte, Nat.reduceEqDiff, Nat.reduceAdd, Nat.reduceLT, Nat.reduceLeDiff, A.okCells, A.cells, A.one, splice]
  refine c_fn (Hck s hss) rfl ?_
  simp only [xs, xl, argS, reduceIte, Nat.reduceEqDiff, Nat.reduceAdd, Nat.reduceLT, Nat.reduceLeDiff, A.okCells, A.cells, A.one, splice]
  refine W_cond rfl (fun hc => ?_) (fun hc => W_skip ?_)
  · have hc : chkC s ≠ 0 := by simpa using hc
    refine W_seq (W_reg ?_); simp only [xs, xl, argS, reduceIte, Nat.reduceEqDiff, Nat.reduceAdd, Nat.reduceLT, Nat.reduceLeDiff, A.okCells, A.cells, A.one, splice]
    refine W_ret ⟨.inr rfl, ?_⟩
    simp only [readRs, readR, single, x_upd, reduceIte, Nat.reduceEqDiff, x_look, argS, xs, xl, argS, reduceIte, Nat.reduceEqDiff, Nat.reduceAdd, Nat.reduceLT, Nat.reduceLeDiff, A.okCells, A.cells, A.one, splice, loadsTo, putR, if_neg hck, if_neg hcol, if_pos hc]
    exact frz_ce (.d (.nil _))
  have hc0 : chkC s = 0 := by simpa using hc
  have hcn : ¬ chkC s ≠ 0 := fun k => k hc0
  obtain ⟨w, hw, hw12⟩ : ∃ w : Nat, widC s = w ∧ (w = 1 ∨ w = 2) := by
    rcases chk_wid hc0 with h | h
    · exact ⟨1, h, .inl rfl⟩
    · exact ⟨2, h, .inr rfl⟩
  have hW := Hw s hss
  rw [hw] at hW ⊢
  simp only [xs, xl, argS, reduceIte, Nat.reduceEqDiff, Nat.reduceAdd, Nat.reduceLT, Nat.reduceLeDiff, A.okCells, A.cells, A.one, splice]
  refine W_seq (W_reg ?_); simp only [xs, xl, argS, reduceIte, Nat.reduceEqDiff, Nat.reduceAdd, Nat.reduceLT, Nat.reduceLeDiff, A.okCells, A.cells, A.one, splice]
  refine c_fn hW rfl ?_
  simp only [xs, xl, argS, reduceIte, Nat.reduceEqDiff, Nat.reduceAdd, Nat.reduceLT, Nat.reduceLeDiff, A.okCells, A.cells, A.one, splice]
  refine W_seq ?_
  have w2 : IntKind.i64.wrap ((l.length : Int) - (n : Int)) = (l.length : Int) - (n : Int) := i64_of (by omega)
  refine W_seq (W_reg ?_); simp only [xs, xl, argS, reduceIte, Nat.reduceEqDiff, Nat.reduceAdd, Nat.reduceLT, Nat.reduceLeDiff, A.okCells, A.cells, A.one, splice, ceRows_length, w2]
  refine W_cond rfl (fun hc => ?_) (fun hc => W_skip ?_)
  · have hc : (l.length : Int) - n < w := by simpa using hc
    refine W_seq (W_reg ?_); simp only [xs, xl, argS, reduceIte, Nat.reduceEqDiff, Nat.reduceAdd, Nat.reduceLT, Nat.reduceLeDiff, A.okCells, A.cells, A.one, splice]
    refine W_ret ⟨.inr rfl, ?_⟩
    simp only [readRs, readR, single, x_upd, reduceIte, Nat.reduceEqDiff, x_look, argS, xs, xl, argS, reduceIte, Nat.reduceEqDiff, Nat.reduceAdd, Nat.reduceLT, Nat.reduceLeDiff, A.okCells, A.cells, A.one, splice, loadsTo, putR, if_neg hck, if_neg hcol, if_neg hcn, if_pos hc]
    exact frz_ce (.d (.nil _))
  have hwn : ¬ ((l.length : Int) - n < w) := by simpa using hc
  simp only [xs, xl, argS, reduceIte, Nat.reduceEqDiff, Nat.reduceAdd, Nat.reduceLT, Nat.reduceLeDiff, A.okCells, A.cells, A.one, splice]
  have w3 : IntKind.i64.wrap ((w : Int) + 1) = ((w + 1 : Nat) : Int) := by rw [i64_of (by omega)]; rfl
  let S : Nat → St := fun i => ⟨look [(0, .d (.sl eCe (ceRows l))), (1, .int n), (2, .str s), (7, .ptr 0 1 0 0), (10, .ref 1 l.length 0 l.length true), (12, .int w), (38, .int ((w + 1 : Nat) : Int)), (39, .int i)], [atB a b c, ceB' (hlvs l n i)]⟩
  refine W_cut (· = S (w + 1)) ?_ ?_
  · refine W_seq (W_reg ?_); simp only [xs, xl, argS, reduceIte, Nat.reduceEqDiff, Nat.reduceAdd, Nat.reduceLT, Nat.reduceLeDiff, A.okCells, A.cells, A.one, splice, w3]
    refine W_block ?_
    refine W_co (s' := S 0) (Co.keep _ (by simp [x_upd, x_look])) ?_
    refine W_loop (fun q s => ∃ i, i ≤ w + 1 ∧ q = w + 1 - i ∧ s = S i) ⟨0, Nat.zero_le _, rfl, rfl⟩ ?_
    rintro q s' ⟨i, hi, rfl, rfl⟩
    simp only [S]
    refine W_seq (W_reg ?_); simp only [xs, xl, argS, reduceIte, Nat.reduceEqDiff, Nat.reduceAdd, Nat.reduceLT, Nat.reduceLeDiff, A.okCells, A.cells, A.one, splice]
    refine W_seq ?_
    refine W_cond rfl (fun hc => W_skip ?_) (fun hc => W_exit ?_)
    · have hlt : i < w + 1 := by simp only [decide_eq_true_eq] at hc; omega
      have w4 : IntKind.i64.wrap ((n : Int) + (i : Int)) = ((n + i : Nat) : Int) := by rw [i64_of (by omega)]; omega
      have w5 : IntKind.i64.wrap ((i : Int) + 1) = ((i + 1 : Nat) : Int) := by rw [i64_of (by omega)]; omega
      simp only [xs, xl, argS, reduceIte, Nat.reduceEqDiff, Nat.reduceAdd, Nat.reduceLT, Nat.reduceLeDiff, A.okCells, A.cells, A.one, splice]
      refine W_seq (W_block ?_)
      refine W_seq (W_reg ?_); simp only [xs, xl, argS, reduceIte, Nat.reduceEqDiff, Nat.reduceAdd, Nat.reduceLT, Nat.reduceLeDiff, A.okCells, A.cells, A.one, splice]
      refine W_reg ?_; simp only [xs, xl, argS, reduceIte, Nat.reduceEqDiff, Nat.reduceAdd, Nat.reduceLT, Nat.reduceLeDiff, A.okCells, A.cells, A.one, splice, w4]
      have hH := Hh (hlvs l n i) (okR_ck (hlvs_ck hrk)) (n + i) (by rw [hlvs_len]; omega) (by omega) 1 [atB a b c, ceB' (hlvs l n i)] rfl
      rw [hlvs_len, hlvs_succ] at hH
      refine ce_fn hH ?_
      simp only [xs, xl, argS, reduceIte, Nat.reduceEqDiff, Nat.reduceAdd, Nat.reduceLT, Nat.reduceLeDiff, A.okCells, A.cells, A.one, splice]
      refine W_reg ?_; simp only [xs, xl, argS, reduceIte, Nat.reduceEqDiff, Nat.reduceAdd, Nat.reduceLT, Nat.reduceLeDiff, A.okCells, A.cells, A.one, splice, w5]
      refine ⟨w + 1 - (i + 1), S (i + 1), by omega, Co.keep _ ?_, i + 1, hlt, rfl, rfl⟩
      simp [x_upd, x_look]
    · have hle : i = w + 1 := by simp only [decide_eq_false_iff_not] at hc; omega
      subst hle
      simp only [xs, xl, argS, reduceIte, Nat.reduceEqDiff, Nat.reduceAdd, Nat.reduceLT, Nat.reduceLeDiff, A.okCells, A.cells, A.one, splice]
      exact ⟨S (w + 1), Co.keep _ (by simp [x_upd, x_look]), rfl⟩
  rintro _ rfl
  have hml : (hlvs l n (w + 1)).length = l.length := hlvs_len
  have hres : putR l n ⟨s, (w : Int), a, b, c⟩ = (putL l n ⟨s, (w : Int), a, b, c⟩, 0) := by
    simp only [putR, if_neg hck, if_neg hcol, if_neg hcn, if_neg hwn, Int.toNat_natCast]
  rw [hres]
  have hput : putL l n ⟨s, (w : Int), a, b, c⟩ = if w = 2 then ((hlvs l n (w + 1)).set n ⟨s, (w : Int), a, b, c⟩).set (n + 1) ⟨⟨#[]⟩, 0, a, b, c⟩ else (hlvs l n (w + 1)).set n ⟨s, (w : Int), a, b, c⟩ := by
    unfold putL
    rcases hw12 with rfl | rfl <;> rfl
  rw [hput]
  have g1 := ceB_get (l := hlvs l n (w + 1)) (i := n) (by omega)
  have s1 := ceB_set (l := hlvs l n (w + 1)) (i := n) (c := ⟨s, (w : Int), a, b, c⟩)
  simp only [Ce.row, List.map_cons, List.map_nil] at s1 g1
  simp only [S]
  refine W_seq (W_reg ?_); simp only [xs, xl, argS, reduceIte, Nat.reduceEqDiff, Nat.reduceAdd, Nat.reduceLT, Nat.reduceLeDiff, A.okCells, A.cells, A.one, splice, ceRows_length, hml, Int.toNat_natCast, g1, s1]
  refine ⟨by omega, by omega, ?_⟩
  refine W_seq ?_
  refine W_seq (W_reg ?_); simp only [xs, xl, argS, reduceIte, Nat.reduceEqDiff, Nat.reduceAdd, Nat.reduceLT, Nat.reduceLeDiff, A.okCells, A.cells, A.one, splice]
  have hlen2 : ((hlvs l n (w + 1)).set n ⟨s, (w : Int), a, b, c⟩).length = l.length := by rw [List.length_set, hml]
  refine W_cond rfl (fun hc => ?_) (fun hc => W_skip ?_)
  · have h2 : w = 2 := by simp only [decide_eq_true_eq] at hc; omega
    rw [if_pos h2]
    have w6 : IntKind.i64.wrap ((n : Int) + 1) = ((n + 1 : Nat) : Int) := by rw [i64_of (by omega)]; omega
    have g2 := ceB_get (l := (hlvs l n (w + 1)).set n ⟨s, (w : Int), a, b, c⟩) (i := n + 1) (by omega)
    have s2 := ceB_set (l := (hlvs l n (w + 1)).set n ⟨s, (w : Int), a, b, c⟩) (i := n + 1) (c := ⟨⟨#[]⟩, 0, a, b, c⟩)
    simp only [Ce.row, List.map_cons, List.map_nil] at s2 g2
    refine W_reg ?_; simp only [xs, xl, argS, reduceIte, Nat.reduceEqDiff, Nat.reduceAdd, Nat.reduceLT, Nat.reduceLeDiff, A.okCells, A.cells, A.one, splice, w6, hlen2, ceRows_length, Int.toNat_natCast, g2, s2]
    refine ⟨by omega, by omega, ?_⟩
    refine W_seq (W_reg ?_); simp only [xs, xl, argS, reduceIte, Nat.reduceEqDiff, Nat.reduceAdd, Nat.reduceLT, Nat.reduceLeDiff, A.okCells, A.cells, A.one, splice]
    refine W_ret ⟨.inr rfl, ?_⟩
    simp only [readRs, readR, single, x_upd, reduceIte, Nat.reduceEqDiff, x_look, argS, xs, xl, argS, reduceIte, Nat.reduceEqDiff, Nat.reduceAdd, Nat.reduceLT, Nat.reduceLeDiff, A.okCells, A.cells, A.one, splice, loadsTo]
    exact frz_ceB (id := 1) rfl (by simp [hml])
  · have h2 : ¬ w = 2 := by simp only [decide_eq_false_iff_not] at hc; omega
    rw [if_neg h2]
    simp only [xs, xl, argS, reduceIte, Nat.reduceEqDiff, Nat.reduceAdd, Nat.reduceLT, Nat.reduceLeDiff, A.okCells, A.cells, A.one, splice]
    refine W_seq (W_reg ?_); simp only [xs, xl, argS, reduceIte, Nat.reduceEqDiff, Nat.reduceAdd, Nat.reduceLT, Nat.reduceLeDiff, A.okCells, A.cells, A.one, splice]
    refine W_ret ⟨.inr rfl, ?_⟩
    simp only [readRs, readR, single, x_upd, reduceIte, Nat.reduceEqDiff, x_look, argS, xs, xl, argS, reduceIte, Nat.reduceEqDiff, Nat.reduceAdd, Nat.reduceLT, Nat.reduceLeDiff, A.okCells, A.cells, A.one, splice, loadsTo]
    exact frz_ceB (id := 1) rfl (by simp [hml])

end Go.Proofs.YtckglkbbdbmdkaaDoor.Nx

