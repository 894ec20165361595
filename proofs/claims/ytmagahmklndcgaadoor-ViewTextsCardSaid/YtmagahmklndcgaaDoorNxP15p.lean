/- Layer 15: view.Of. -/
/- Layer 15: the reference's Style, Trim, row, Of; the law ViewOf. -/
/- Layer 15: ref15.Of; the laws ViewOf and ViewProper. -/
/- Layer 15: the view of a showable terminal is proper. -/
import Derived.Test.YtmagahmklndcgaaDoorNxP15n
import Derived.Test.YtmagahmklndcgaaDoorNxP15k
import Derived.Test.YtmagahmklndcgaaDoorNxP15d
namespace Go.Proofs.YtmagahmklndcgaaDoor.Nx
set_option linter.unusedSimpArgs false
set_option linter.unusedVariables false
set_option linter.unnecessarySimpa false
open Go

variable {P : Program} {N : Nat} {Γ : Tabs}

theorem underL_d (k : Nat) : ∀ l : List D, A.underL k (l.map A.d) = true
  | [] => rfl
  | d :: l => by simp [A.underL, A.under, underL_d k l]
theorem tm_under (t : Tm) : A.underL 0 [tmA t] = true := by simp [A.underL, A.under, tmA, tmR, underL_d]
theorem glyphsOf_len (l : List Ce) : (glyphsOf l).length ≤ l.length := List.length_filterMap_le ..
def ofV (t : Tm) : Vw := if showT t then ⟨t.w, t.h, t.rows.map fun l => trimGl (glyphsOf l), t.row, t.col, t.vis⟩ else zeroV

theorem glyphs_fn {f f1 : FuncId} (H : FnIs P f N [.t 2] (x_view_glyphs f1)) (hN : 1 ≤ N) (l : List Ce) : FnP Γ P f [.d (.sl eCe (ceRows l))] (.fn f1 [.iptr [.sl eCe (ceRows l)]]) := by
  refine .of_W H (by simpa using hN) ?_
  unfold x_view_glyphs
  refine W_seq (W_reg ?_)
  simp only [xs, xl, argS, reduceIte, Nat.reduceEqDiff, Nat.reduceAdd, Nat.reduceLT, Nat.reduceLeDiff, A.okCells, A.cells, A.one, splice]
  refine W_seq (W_reg ?_)
  simp only [xs, xl, argS, reduceIte, Nat.reduceEqDiff, Nat.reduceAdd, Nat.reduceLT, Nat.reduceLeDiff, A.okCells, A.cells, A.one, splice]
  refine W_ret (.frz ?_)
  simp only [xs, xl, argS, reduceIte, Nat.reduceEqDiff, Nat.reduceAdd, Nat.reduceLT, Nat.reduceLeDiff, A.okCells, A.cells, A.one, splice]
  refine .fn rfl fun j y hj => ?_
  cases j with
  | zero =>
    cases hj
    refine FrzA.iptr (rows := [[.d (.sl eCe (ceRows l))]]) (i := 0) (off := 0) (id := 0) (Nat.zero_le 0) rfl rfl fun k d hk => ?_
    cases k with
    | zero => cases hk; exact ⟨by simp, .d _⟩
    | succ k => simp at hk
  | succ j => simp at hj

/-- A row of the view, for a row of cells. -/
def vRow (l : List Ce) : List Gl := trimGl (glyphsOf l)
def rwB (l : List (List Gl)) : HB := .cells eRw ((rwRows l).map fun r => r.map A.d)
theorem rwB_len {l : List (List Gl)} : ((rwRows l).map fun r => r.map A.d).length = l.length := by simp [rwRows]
theorem rwB_snoc {l : List (List Gl)} {g : List Gl} : ((rwRows l).map fun r => r.map A.d) ++ [[.d (.sl eGl (glRows g))]] = (rwRows (l ++ [g])).map fun r => r.map A.d := by simp [rwRows]
def zB : HB := .cells eVw [[.int 0, .int 0, .nil, .int 0, .int 0, .bool false]]
def vB (t : Tm) (x : A) : HB := .cells eVw [[.int t.w, .int t.h, x, .int t.row, .int t.col, .bool t.vis]]
theorem under_tm {t : Tm} {k : Nat} : HB.under k (tmB t) := by
  have : tmB t = .cells eTm ([t.ds].map fun r => r.map A.d) := rfl
  rw [this]; exact under_d
theorem under_z {k : Nat} : HB.under k zB := by
  intro r hr x hx
  simp only [List.mem_cons, List.not_mem_nil, or_false] at hr
  subst hr
  simp only [List.mem_cons, List.not_mem_nil, or_false] at hx
  rcases hx with rfl | rfl | rfl | rfl | rfl | rfl <;> rfl
theorem under_v {t : Tm} {x : A} {k : Nat} (hx : x.under k = true) : HB.under k (vB t x) := by
  intro r hr y hy
  simp only [List.mem_cons, List.not_mem_nil, or_false] at hr
  subst hr
  simp only [List.mem_cons, List.not_mem_nil, or_false] at hy
  rcases hy with rfl | rfl | rfl | rfl | rfl | rfl
  · rfl
  · rfl
  · exact hx
  · rfl
  · rfl
  · rfl

/-- The view's fields, with rows that are own blocks, become a view. -/
theorem frz_view {t : Tm} {h : Heap} {x : A} {L : List (List Gl)} (hx : FrzA 0 h x (.d (.sl eRw (rwRows L)))) : FrzA 0 h (.agg [.int t.w, .int t.h, x, .int t.row, .int t.col, .bool t.vis]) (vwA ⟨t.w, t.h, L, t.row, t.col, t.vis⟩) := by
  refine .agg rfl fun j y hj => ?_
  rcases j with _ | _ | _ | _ | _ | _ | j
  · cases hj; exact .same rfl
  · cases hj; exact .same rfl
  · cases hj; exact hx
  · cases hj; exact .same rfl
  · cases hj; exact .same rfl
  · cases hj; exact .same rfl
  · simp [Vw.ds] at hj
theorem frz_zero {h : Heap} : FrzA 0 h (.agg [.int 0, .int 0, .nil, .int 0, .int 0, .bool false]) (vwA zeroV) := by
  refine .agg rfl fun j y hj => ?_
  rcases j with _ | _ | _ | _ | _ | _ | j
  · cases hj; exact .same rfl
  · cases hj; exact .same rfl
  · cases hj; exact .d (.nil _)
  · cases hj; exact .same rfl
  · cases hj; exact .same rfl
  · cases hj; exact .same rfl
  · simp [zeroV, Vw.ds] at hj

theorem showT_rows {t : Tm} (h : showT t = true) : (∀ l ∈ t.rows, (l.length : Int) = t.w ∧ checkR l = 0 ∧ l.any badA = false) ∧ badT t = false := by
  simp only [showT, Bool.not_eq_true', Bool.or_eq_false_iff] at h
  refine ⟨fun l hl => ?_, h.1⟩
  have := List.any_eq_false.1 h.2 l hl
  simp only [badRow, Bool.or_eq_true, Bool.not_eq_true', decide_eq_false_iff_not, not_or, Decidable.not_not] at this
  exact ⟨this.1.1, this.1.2, by simpa using this.2⟩
theorem showT_small {t : Tm} (h : showT t = true) : (∀ l ∈ t.rows, l.length ≤ 132) ∧ t.rows.length ≤ 60 := by
  obtain ⟨h1, h2⟩ := showT_rows h
  simp only [badT, Bool.or_eq_false_iff, Bool.not_eq_false', decide_eq_true_eq] at h2
  have := szOk_le h2.1.1.1.1.1
  have hh := h2.1.1.1.1.2
  refine ⟨fun l hl => ?_, by omega⟩
  have := (h1 l hl).1
  omega

set_option maxHeartbeats 400000 in
theorem of_fn {f fs fg fc ft f1 : FuncId} (H : FnIs P f N [.c 2 6 true] (x_view_Of fs fg fc ft)) (hN : 1 ≤ N) (t : Tm) (Hs : FnP Γ P fs [tmA t] (.bool (showT t))) (Hg : ∀ l : List Ce, FnP Γ P fg [.d (.sl eCe (ceRows l))] (.fn f1 [.iptr [.sl eCe (ceRows l)]]))
    (Hc : ∀ l : List Ce, l.length ≤ 132 → FnP Γ P fc [.fn f1 [.iptr [.sl eCe (ceRows l)]]] (.d (.sl eGl (glRows (glyphsOf l))))) (Ht : ∀ l : List Gl, FnP Γ P ft [.d (.sl eGl (glRows l))] (.d (.sl eGl (glRows (trimGl l))))) : FnP Γ P f [tmA t] (vwA (ofV t)) := by
  refine .of_W H (by simpa using hN) (W_aggsl 0 2 rfl rfl fun ⟨_, hroom, _⟩ => ?_)
  have hlr : t.rows.length ≤ room := le_of_mul (by rw [crRows_len] at hroom; exact hroom)
  have hS := Hs
  simp only [tmA, tmR] at hS
  unfold x_view_Of
  refine W_seq (W_reg ?_)
  simp only [tmA, tmR, xs, xl, argS, reduceIte, Nat.reduceEqDiff, Nat.reduceAdd, Nat.reduceLT, Nat.reduceLeDiff, A.okCells, A.cells, A.one, splice, tm_len]
  refine W_seq (W_seq (W_reg ?_))
  simp only [xs, xl, argS, reduceIte, Nat.reduceEqDiff, Nat.reduceAdd, Nat.reduceLT, Nat.reduceLeDiff, A.okCells, A.cells, A.one, splice, tm_len, tm_take]
  refine c_fn hS (tm_under t) ?_
  simp only [xs, xl, argS, reduceIte, Nat.reduceEqDiff, Nat.reduceAdd, Nat.reduceLT, Nat.reduceLeDiff, A.okCells, A.cells, A.one, splice]
  refine W_cond rfl (fun hc => ?_) (fun hc => W_skip ?_)
  · have hsh : showT t = false := by simpa using hc
    refine W_seq (W_reg ?_)
    simp only [xs, xl, argS, reduceIte, Nat.reduceEqDiff, Nat.reduceAdd, Nat.reduceLT, Nat.reduceLeDiff, A.okCells, A.cells, A.one, splice]
    refine W_ret ⟨.inr rfl, ?_⟩
    simp only [readRs, readR, single, x_upd, reduceIte, Nat.reduceEqDiff, x_look, argS, xs, xl, argS, reduceIte, Nat.reduceEqDiff, Nat.reduceAdd, Nat.reduceLT, Nat.reduceLeDiff, A.okCells, A.cells, A.one, splice, loadsTo, ofV, hsh, Bool.false_eq_true]
    exact frz_zero
  · have hsh : showT t = true := by simpa using hc
    obtain ⟨hw, hh⟩ := showT_small hsh
    simp only [xs, xl, argS, reduceIte, Nat.reduceEqDiff, Nat.reduceAdd, Nat.reduceLT, Nat.reduceLeDiff, A.okCells, A.cells, A.one, splice]
    refine W_seq (W_reg ?_)
    simp only [xs, xl, argS, reduceIte, Nat.reduceEqDiff, Nat.reduceAdd, Nat.reduceLT, Nat.reduceLeDiff, A.okCells, A.cells, A.one, splice, tm_vis]
    refine W_seq (W_seq (W_reg ?_))
    simp only [xs, xl, argS, reduceIte, Nat.reduceEqDiff, Nat.reduceAdd, Nat.reduceLT, Nat.reduceLeDiff, A.okCells, A.cells, A.one, splice, crRows_len]
    refine W_block ?_
    let R : Nat → List (List Gl) := fun k => (t.rows.take k).map vRow
    have hRl : ∀ k, k ≤ t.rows.length → (R k).length = k := fun k hk => by simp [R]; omega
    have hRs : ∀ k (hk : k < t.rows.length), R (k + 1) = R k ++ [vRow t.rows[k]] := fun k hk => by
      simp only [R]
      rw [List.take_add_one, List.getElem?_eq_getElem hk, Option.toList_some, List.map_append]; rfl
    let bx : Nat → A := fun k => if k = 0 then .nil else .ref 4 k 0 k true
    let Hp : Nat → Heap := fun k => if k = 0 then [tmB t, zB, vB t .nil] else [tmB t, zB, vB t (.ref 4 k 0 k true), rwB (R 1), rwB (R k)]
    let S : Nat → St := fun k => ⟨look [(1, .ptr 0 1 0 0), (2, .ptr 1 1 0 0), (3, .ptr 2 1 0 0), (28, .d (.sl eRw (crRows t.rows))), (29, .int t.rows.length), (30, .int k)], Hp k⟩
    refine W_co (s' := S 0) (Co.keep _ (by simp [x_upd, x_look])) ?_
    refine W_loop (fun m s => ∃ k, k ≤ t.rows.length ∧ m = t.rows.length - k ∧ s = S k) ⟨0, Nat.zero_le _, rfl, rfl⟩ ?_
    rintro m s ⟨k, hk, rfl, rfl⟩
    refine W_seq (W_reg ?_)
    simp only [S, xs, xl, argS, reduceIte, Nat.reduceEqDiff, Nat.reduceAdd, Nat.reduceLT, Nat.reduceLeDiff, A.okCells, A.cells, A.one, splice]
    refine W_seq (W_cond rfl (fun hc => W_skip ?_) (fun hc => W_exit ?_))
    · have hlt : k < t.rows.length := by simpa using hc
      have hwl := hw _ (List.getElem_mem hlt)
      have hCl := Hc _ hwl
      have hGl := Hg t.rows[k]
      have hTl := Ht (glyphsOf t.rows[k])
      have f1' : IntKind.i64.wrap ((k : Int) + 1) = ((k + 1 : Nat) : Int) := i64_of (by omega)
      simp only [xs, xl, argS, reduceIte, Nat.reduceEqDiff, Nat.reduceAdd, Nat.reduceLT, Nat.reduceLeDiff, A.okCells, A.cells, A.one, splice]
      refine W_seq (W_block (W_seq (W_reg ?_)))
      simp only [xs, xl, argS, reduceIte, Nat.reduceEqDiff, Nat.reduceAdd, Nat.reduceLT, Nat.reduceLeDiff, A.okCells, A.cells, A.one, splice, crRows_get hlt, crRows_len]
      refine ⟨by omega, by omega, ?_⟩
      have hs1 := hRs k hlt
      change (R (k + 1)) = R k ++ [trimGl (glyphsOf t.rows[k])] at hs1
      generalize t.rows[k] = L at hCl hGl hTl hs1
      rcases Nat.eq_zero_or_pos k with rfl | hpos
      · have hR1 : (rwRows (R 1)).map (fun r => r.map A.d) = [[.d (.sl eGl (glRows (trimGl (glyphsOf L))))]] := by
          rw [show R 1 = R 0 ++ [trimGl (glyphsOf L)] from hs1]
          simp [R, rwRows]
        refine W_drw (by simp) ?_
        simp only [Hp, vB, xs, xl, argS, reduceIte, Nat.reduceEqDiff, Nat.reduceAdd, Nat.reduceLT, Nat.reduceLeDiff, A.okCells, A.cells, A.one, splice]
        refine c_fn hGl rfl ?_
        simp only [xs, xl, argS, reduceIte, Nat.reduceEqDiff, Nat.reduceAdd, Nat.reduceLT, Nat.reduceLeDiff, A.okCells, A.cells, A.one, splice]
        refine c_fn hCl rfl ?_
        simp only [xs, xl, argS, reduceIte, Nat.reduceEqDiff, Nat.reduceAdd, Nat.reduceLT, Nat.reduceLeDiff, A.okCells, A.cells, A.one, splice]
        refine c_fn hTl rfl ?_
        simp only [xs, xl, argS, reduceIte, Nat.reduceEqDiff, Nat.reduceAdd, Nat.reduceLT, Nat.reduceLeDiff, A.okCells, A.cells, A.one, splice]
        rw [if_neg (by simp)]
        refine ⟨by decide, by decide, ?_⟩
        refine W_reg ?_
        simp only [xs, xl, argS, reduceIte, Nat.reduceEqDiff, Nat.reduceAdd, Nat.reduceLT, Nat.reduceLeDiff, A.okCells, A.cells, A.one, splice, f1']
        refine ⟨t.rows.length - 1, S 1, by omega, ?_, 1, hlt, rfl, rfl⟩
        have e1 : S 1 = ⟨look [(1, .ptr 0 1 0 0), (2, .ptr 1 1 0 0), (3, .ptr 2 1 0 0), (28, .d (.sl eRw (crRows t.rows))), (29, .int t.rows.length), (30, .int ((0 + 1 : Nat) : Int))], [tmB t, zB, vB t (.ref 4 1 0 1 true), .cells eRw [[.d (.sl eGl (glRows (trimGl (glyphsOf L))))]], .cells eRw [[.d (.sl eGl (glRows (trimGl (glyphsOf L))))]]]⟩ := by
          simp only [S, Hp, rwB, hR1]; rfl
        rw [e1]
        exact Co.keep _ (by simp [x_upd, x_look])
      · obtain ⟨k, rfl⟩ : ∃ k', k = k' + 1 := ⟨k - 1, by omega⟩
        have hHp : Hp (k + 1) = [tmB t, zB, vB t (.ref 4 (k + 1) 0 (k + 1) true), rwB (R 1), rwB (R (k + 1))] := by simp only [Hp, if_neg (Nat.succ_ne_zero k)]
        rw [hHp]
        have hl1 := hRl (k + 1) (by omega)
        refine W_drw (by simp) ?_
        simp only [vB, xs, xl, argS, reduceIte, Nat.reduceEqDiff, Nat.reduceAdd, Nat.reduceLT, Nat.reduceLeDiff, A.okCells, A.cells, A.one, splice]
        refine c_fn hGl rfl ?_
        simp only [xs, xl, argS, reduceIte, Nat.reduceEqDiff, Nat.reduceAdd, Nat.reduceLT, Nat.reduceLeDiff, A.okCells, A.cells, A.one, splice]
        refine c_fn hCl rfl ?_
        simp only [xs, xl, argS, reduceIte, Nat.reduceEqDiff, Nat.reduceAdd, Nat.reduceLT, Nat.reduceLeDiff, A.okCells, A.cells, A.one, splice]
        refine c_fn hTl rfl ?_
        simp only [rwB, xs, xl, argS, reduceIte, Nat.reduceEqDiff, Nat.reduceAdd, Nat.reduceLT, Nat.reduceLeDiff, A.okCells, A.cells, A.one, splice, rwRows_len, rwB_len, hl1, rwB_snoc, ← hs1]
        refine ⟨by simp only [room]; omega, by simp only [maxLen]; omega, ?_⟩
        refine W_reg ?_
        simp only [xs, xl, argS, reduceIte, Nat.reduceEqDiff, Nat.reduceAdd, Nat.reduceLT, Nat.reduceLeDiff, A.okCells, A.cells, A.one, splice, f1']
        refine ⟨t.rows.length - (k + 1 + 1), S (k + 1 + 1), by omega, ?_, k + 1 + 1, hlt, rfl, rfl⟩
        have e1 : S (k + 1 + 1) = ⟨look [(1, .ptr 0 1 0 0), (2, .ptr 1 1 0 0), (3, .ptr 2 1 0 0), (28, .d (.sl eRw (crRows t.rows))), (29, .int t.rows.length), (30, .int ((k + 1 + 1 : Nat) : Int))], [tmB t, zB, vB t (.ref 4 (k + 1 + 1) 0 (k + 1 + 1) true), rwB (R 1), rwB (R (k + 1 + 1))]⟩ := by
          simp only [S, Hp, if_neg (Nat.succ_ne_zero (k + 1))]
        rw [e1]
        refine Co.to _ 5 ?_ (Nat.zero_le _) (by simp) ?_
        · simp [x_upd, x_look, A.under]
        · intro B hB
          simp only [List.take_succ_cons, List.take_zero, List.mem_cons, List.not_mem_nil, or_false] at hB
          rcases hB with rfl | rfl | rfl | rfl | rfl
          · exact under_tm
          · exact under_z
          · exact under_v (by simp [A.under])
          · exact under_d
          · exact under_d
    · have hle : k = t.rows.length := by simp at hc; omega
      subst hle
      have hRa : R t.rows.length = t.rows.map fun l => trimGl (glyphsOf l) := by simp only [R, List.take_length]; rfl
      have hofV : ofV t = ⟨t.w, t.h, R t.rows.length, t.row, t.col, t.vis⟩ := by rw [ofV, if_pos hsh, hRa]
      rw [hofV]
      simp only [xs, xl, argS, reduceIte, Nat.reduceEqDiff, Nat.reduceAdd, Nat.reduceLT, Nat.reduceLeDiff, A.okCells, A.cells, A.one, splice]
      rcases Nat.eq_zero_or_pos t.rows.length with h0 | hpos
      · have hR0 : R t.rows.length = [] := List.eq_nil_of_length_eq_zero (by rw [hRl _ (Nat.le_refl _), h0])
        have hHp : Hp t.rows.length = [tmB t, zB, vB t .nil] := by simp only [Hp, if_pos h0]
        rw [hHp, hR0]
        refine W_seq (W_reg ?_)
        simp only [vB, zB, xs, xl, argS, reduceIte, Nat.reduceEqDiff, Nat.reduceAdd, Nat.reduceLT, Nat.reduceLeDiff, A.okCells, A.cells, A.one, splice]
        refine W_ret ⟨.inr rfl, ?_⟩
        simp only [readRs, readR, single, x_upd, reduceIte, Nat.reduceEqDiff, x_look, xs, xl, argS, reduceIte, Nat.reduceEqDiff, Nat.reduceAdd, Nat.reduceLT, Nat.reduceLeDiff, A.okCells, A.cells, A.one, splice, loadsTo]
        exact frz_view (.d (.nil _))
      · have hHp : Hp t.rows.length = [tmB t, zB, vB t (.ref 4 t.rows.length 0 t.rows.length true), rwB (R 1), rwB (R t.rows.length)] := by simp only [Hp, if_neg (by omega : ¬ t.rows.length = 0)]
        rw [hHp]
        refine W_seq (W_reg ?_)
        simp only [vB, zB, xs, xl, argS, reduceIte, Nat.reduceEqDiff, Nat.reduceAdd, Nat.reduceLT, Nat.reduceLeDiff, A.okCells, A.cells, A.one, splice]
        refine W_ret ⟨.inr rfl, ?_⟩
        simp only [readRs, readR, single, x_upd, reduceIte, Nat.reduceEqDiff, x_look, xs, xl, argS, reduceIte, Nat.reduceEqDiff, Nat.reduceAdd, Nat.reduceLT, Nat.reduceLeDiff, A.okCells, A.cells, A.one, splice, loadsTo]
        refine frz_view ?_
        have hl := hRl _ (Nat.le_refl t.rows.length)
        have := frz_all (id := 4) (full := true) (e := eRw) (rows := rwRows (R t.rows.length)) (h := [tmB t, .cells eVw [[.int t.w, .int t.h, .ref 4 t.rows.length 0 t.rows.length true, .int t.row, .int t.col, .bool t.vis]], .cells eVw [[.int t.w, .int t.h, .ref 4 t.rows.length 0 t.rows.length true, .int t.row, .int t.col, .bool t.vis]], rwB (R 1), rwB (R t.rows.length)]) rfl
        rw [rwRows_len, hl] at this
        exact this

end Go.Proofs.YtmagahmklndcgaaDoor.Nx

namespace Go.Proofs.YtmagahmklndcgaaDoor.Nx
set_option linter.unusedSimpArgs false
set_option linter.unusedVariables false
set_option linter.unnecessarySimpa false
open Go

variable {P : Program} {N : Nat} {Γ : Tabs}

theorem style4_fn {f : FuncId} (H : FnIs P f N [.t 2] x_ref04_Style) (hN : 1 ≤ N) (c : Ce) : FnP Γ P f [attrA c] (.int (styleOf c.flags)) := by
  refine .of_W H (by simpa using hN) ?_
  unfold x_ref04_Style
  refine W_seq (W_reg ?_)
  simp only [attrA, xs, xl, argS, reduceIte, Nat.reduceEqDiff, Nat.reduceAdd, Nat.reduceLT, Nat.reduceLeDiff, A.okCells, A.cells, A.one, splice]
  refine W_seq (W_seq (W_reg ?_))
  simp only [xs, xl, argS, reduceIte, Nat.reduceEqDiff, Nat.reduceAdd, Nat.reduceLT, Nat.reduceLeDiff, A.okCells, A.cells, A.one, splice]
  refine W_cond rfl (fun hc => ?_) (fun hc => W_skip ?_)
  · have hc : andI .i64 c.flags 64 ≠ 0 := by simpa using hc
    refine W_seq (W_reg ?_)
    simp only [xs, xl, argS, reduceIte, Nat.reduceEqDiff, Nat.reduceAdd, Nat.reduceLT, Nat.reduceLeDiff, A.okCells, A.cells, A.one, splice]
    refine W_ret (.tmp ?_ rfl)
    simp [x_upd, styleOf, hc]
  have hc : andI .i64 c.flags 64 = 0 := by simpa using hc
  simp only [xs, xl, argS, reduceIte, Nat.reduceEqDiff, Nat.reduceAdd, Nat.reduceLT, Nat.reduceLeDiff, A.okCells, A.cells, A.one, splice]
  refine W_seq (W_seq (W_reg ?_))
  simp only [xs, xl, argS, reduceIte, Nat.reduceEqDiff, Nat.reduceAdd, Nat.reduceLT, Nat.reduceLeDiff, A.okCells, A.cells, A.one, splice]
  refine W_cond rfl (fun hc2 => ?_) (fun hc2 => W_skip ?_)
  · have hc2 : andI .i64 c.flags 32 ≠ 0 := by simpa using hc2
    refine W_seq (W_reg ?_)
    simp only [xs, xl, argS, reduceIte, Nat.reduceEqDiff, Nat.reduceAdd, Nat.reduceLT, Nat.reduceLeDiff, A.okCells, A.cells, A.one, splice]
    refine W_ret (.tmp ?_ rfl)
    simp [x_upd, styleOf, hc, hc2]
  have hc2 : andI .i64 c.flags 32 = 0 := by simpa using hc2
  simp only [xs, xl, argS, reduceIte, Nat.reduceEqDiff, Nat.reduceAdd, Nat.reduceLT, Nat.reduceLeDiff, A.okCells, A.cells, A.one, splice]
  refine W_seq (W_seq (W_reg ?_))
  simp only [xs, xl, argS, reduceIte, Nat.reduceEqDiff, Nat.reduceAdd, Nat.reduceLT, Nat.reduceLeDiff, A.okCells, A.cells, A.one, splice]
  refine W_cond rfl (fun hc3 => ?_) (fun hc3 => W_skip ?_)
  · have hc3 : andI .i64 c.flags 29 ≠ 0 := by simpa using hc3
    refine W_seq (W_reg ?_)
    simp only [xs, xl, argS, reduceIte, Nat.reduceEqDiff, Nat.reduceAdd, Nat.reduceLT, Nat.reduceLeDiff, A.okCells, A.cells, A.one, splice]
    refine W_ret (.tmp ?_ rfl)
    simp [x_upd, styleOf, hc, hc2, hc3]
  have hc3 : andI .i64 c.flags 29 = 0 := by simpa using hc3
  simp only [xs, xl, argS, reduceIte, Nat.reduceEqDiff, Nat.reduceAdd, Nat.reduceLT, Nat.reduceLeDiff, A.okCells, A.cells, A.one, splice]
  refine W_seq (W_reg ?_)
  simp only [xs, xl, argS, reduceIte, Nat.reduceEqDiff, Nat.reduceAdd, Nat.reduceLT, Nat.reduceLeDiff, A.okCells, A.cells, A.one, splice]
  refine W_ret (.tmp ?_ rfl)
  simp [x_upd, styleOf, hc, hc2, hc3]

theorem refTrim_fn {f fb : FuncId} (H : FnIs P f N [.t 2] (x_ref15_Trim fb)) (hN : 1 ≤ N) (Hb : ∀ g, FnP Γ P fb [glA g] (.bool (decide (g = spaceGl)))) (l : List Gl) (hl : l.length ≤ 1000) :
    FnP Γ P f [.d (.sl eGl (glRows l))] (.d (.sl eGl (glRows (trimGl l)))) := by
  refine .of_W H (by simpa using hN) ?_
  have hlr : l.length ≤ room := by simp only [room]; omega
  unfold x_ref15_Trim
  refine W_seq (W_reg ?_)
  simp only [xs, xl, argS, reduceIte, Nat.reduceEqDiff, Nat.reduceAdd, Nat.reduceLT, Nat.reduceLeDiff, A.okCells, A.cells, A.one, splice]
  refine W_seq (W_reg ?_)
  simp only [xs, xl, argS, reduceIte, Nat.reduceEqDiff, Nat.reduceAdd, Nat.reduceLT, Nat.reduceLeDiff, A.okCells, A.cells, A.one, splice, glRows_len]
  refine W_seq (W_block ?_)
  let S : Nat → St := fun i => ⟨look [(0, .d (.sl eGl (glRows l))), (3, .int i)], []⟩
  refine W_co (s' := S l.length) (Co.keep _ (by simp [x_upd, x_look])) ?_
  refine W_loop (fun m s => m ≤ l.length ∧ s = S m ∧ trimN l l.length = trimN l m) ⟨Nat.le_refl _, rfl, rfl⟩ ?_
  rintro m s ⟨hm, rfl, htr⟩
  have fin : ∀ (sl : Nat → A) (n : Nat), sl 0 = .d (.sl eGl (glRows l)) → sl 3 = .int n → n = trimN l l.length → W (Tabs.ctx Γ) P N none 0 (.seq (.reg [
    { dst := some 18, op := .bslice ⟨3, 32⟩ [(.str ⟨#[]⟩), (.bool false), (.int 0)] 0 [] },
    { dst := some 19, op := .mov (.t 0) },
    { dst := some 20, op := .mov (.t 3) },
    { dst := some 21, op := .slice ⟨3, 32⟩ (.t 19) none (some (.t 20)) none },
    { dst := some 22, op := .append ⟨3, 32⟩ (.t 18) (.t 21) },
    { dst := some 2, op := .mov (.t 22) }]) .ret) (RetQ [.t 2] (.d (.sl eGl (glRows (trimGl l))))) ⟨sl, []⟩ := by
    intro sl n h0 h3 hn
    have hnl : n ≤ l.length := by rw [hn]; exact trimN_le l _
    have ht : l.take n = trimGl l := by rw [trimGl, hn]
    have htl : (trimGl l).length = n := by rw [trimGl_len, hn]
    refine W_seq (W_reg ?_)
    simp only [xs, xl, argS, reduceIte, Nat.reduceEqDiff, Nat.reduceAdd, Nat.reduceLT, Nat.reduceLeDiff, A.okCells, A.cells, A.one, splice, h0, h3, glRows_len, Int.natCast_zero, Int.sub_zero, glRows_take, ht, htl]
    refine ⟨by omega, by omega, by omega, by omega, by simp only [room]; omega, by simp only [maxLen]; omega, ?_⟩
    refine W_ret (.frz ?_)
    simp only [xs, xl, argS, reduceIte, Nat.reduceEqDiff, Nat.reduceAdd, Nat.reduceLT, Nat.reduceLeDiff, A.okCells, A.cells, A.one, splice]
    have := frz_all (id := 0) (full := true) (e := eGl) (rows := glRows (trimGl l)) (h := [.cells eGl ((glRows (trimGl l)).map fun r => r.map A.d)]) rfl
    rw [glRows_len, htl] at this
    exact this
  cases m with
  | zero =>
    refine W_seq (W_seq (W_reg ?_))
    simp only [xs, xl, argS, reduceIte, Nat.reduceEqDiff, Nat.reduceAdd, Nat.reduceLT, Nat.reduceLeDiff, A.okCells, A.cells, A.one, splice, S, Int.natCast_zero, Int.lt_irrefl, decide_false]
    refine W_cond rfl (fun hc => by cases hc) (fun _ => W_exit ?_)
    simp only [xs, xl, argS, reduceIte, Nat.reduceEqDiff, Nat.reduceAdd, Nat.reduceLT, Nat.reduceLeDiff, A.okCells, A.cells, A.one, splice]
    exact fin _ 0 rfl rfl htr.symm
  | succ n =>
    have hpos : decide ((0 : Int) < ((n + 1 : Nat) : Int)) = true := decide_eq_true (by omega)
    have hlt : n < l.length := by omega
    have hB := Hb l[n]
    simp only [glA, Gl.row, List.map_cons, List.map_nil] at hB
    refine W_seq (W_seq (W_reg ?_))
    simp only [xs, xl, argS, reduceIte, Nat.reduceEqDiff, Nat.reduceAdd, Nat.reduceLT, Nat.reduceLeDiff, A.okCells, A.cells, A.one, splice, S, hpos, i64_pred (show n ≤ room by omega), glRows_get hlt, Gl.row, glRows_len]
    refine ⟨by omega, by omega, ?_⟩
    refine c_fn hB rfl ?_
    simp only [xs, xl, argS, reduceIte, Nat.reduceEqDiff, Nat.reduceAdd, Nat.reduceLT, Nat.reduceLeDiff, A.okCells, A.cells, A.one, splice]
    refine W_cond rfl (fun hc => W_skip ?_) (fun hc => W_exit ?_)
    · have he : l[n] = spaceGl := by simpa using hc
      simp only [xs, xl, argS, reduceIte, Nat.reduceEqDiff, Nat.reduceAdd, Nat.reduceLT, Nat.reduceLeDiff, A.okCells, A.cells, A.one, splice]
      refine W_block (W_reg ?_)
      simp only [xs, xl, argS, reduceIte, Nat.reduceEqDiff, Nat.reduceAdd, Nat.reduceLT, Nat.reduceLeDiff, A.okCells, A.cells, A.one, splice]
      refine ⟨n, S n, Nat.lt_succ_self _, Co.keep _ ?_, by omega, rfl, ?_⟩
      · simp [x_upd, x_look, i64_nat (show n ≤ room by omega)]
      · rw [htr]; simp [trimN, List.getElem?_eq_getElem hlt, he]
    · have he : l[n] ≠ spaceGl := by simpa using hc
      simp only [xs, xl, argS, reduceIte, Nat.reduceEqDiff, Nat.reduceAdd, Nat.reduceLT, Nat.reduceLeDiff, A.okCells, A.cells, A.one, splice]
      refine fin _ (n + 1) rfl rfl ?_
      rw [htr]; simp [trimN, List.getElem?_eq_getElem hlt, he]

/-! ### widths of rows that are proper -/
theorem rowCk_width : ∀ (n : Nat) (l : List Ce), l.length ≤ n → rowCk l = 0 → ∀ c ∈ l, 0 ≤ c.width ∧ c.width ≤ 2
  | 0, l, hl, _, c, hc => by
    have : l = [] := List.eq_nil_of_length_eq_zero (by omega)
    subst this; simp at hc
  | n + 1, [], _, _, c, hc => by simp at hc
  | n + 1, a :: l, hl, h, c, hc => by
    rw [rowCk.eq_def] at h
    simp only at h
    split at h
    · cases h
    · rename_i hw
      have hw : a.width = 1 ∨ a.width = 2 := Decidable.not_not.1 hw
      split at h
      · split at h
        · split at h
          · cases l with
            | nil => cases h
            | cons d l' =>
              simp only at h
              split at h
              · rename_i hd
                simp only [List.length_cons] at hl
                rcases List.mem_cons.1 hc with rfl | hc
                · omega
                · rcases List.mem_cons.1 hc with rfl | hc
                  · rw [hd]; simp [pairC]
                  · exact rowCk_width n l' (by omega) h c hc
              · cases h
          · simp only [List.length_cons] at hl
            rcases List.mem_cons.1 hc with rfl | hc
            · omega
            · exact rowCk_width n l (by omega) h c hc
        · cases h
      · cases h
theorem checkR_width {l : List Ce} (h : checkR l = 0) : ∀ c ∈ l, 0 ≤ c.width ∧ c.width ≤ 2 := by
  unfold checkR at h
  split at h
  · cases h
  · exact rowCk_width l.length l (Nat.le_refl _) h

/-! ### row -/
theorem glyphsOf_take {l : List Ce} {i : Nat} (hi : i < l.length) : glyphsOf (l.take (i + 1)) = glyphsOf (l.take i) ++ (glyphOf l[i]).toList := by
  rw [List.take_add_one, List.getElem?_eq_getElem hi, Option.toList_some, glyphsOf, List.filterMap_append]
  simp only [glyphsOf, List.filterMap_cons, List.filterMap_nil]
  cases glyphOf l[i] <;> rfl
theorem glB_snoc {l : List Gl} {g : Gl} : ((glRows l).map fun r => r.map A.d) ++ [g.row.map .d] = (glRows (l ++ [g])).map fun r => r.map A.d := by simp [glRows]

set_option maxHeartbeats 400000 in
theorem refRow15_fn {f fs ft : FuncId} (H : FnIs P f N [.t 2] (x_ref15_row fs ft)) (hN : 1 ≤ N) (Hs : ∀ c, FnP Γ P fs [attrA c] (.int (styleOf c.flags))) (Ht : ∀ l : List Gl, l.length ≤ 1000 → FnP Γ P ft [.d (.sl eGl (glRows l))] (.d (.sl eGl (glRows (trimGl l)))))
    (l : List Ce) (hl : l.length ≤ 1000) (hw : ∀ c ∈ l, 0 ≤ c.width ∧ c.width ≤ 2) : FnP Γ P f [.d (.sl eCe (ceRows l))] (.d (.sl eGl (glRows (vRow l)))) := by
  refine .of_W H (by simpa using hN) ?_
  unfold x_ref15_row
  refine W_seq (W_reg ?_)
  simp only [xs, xl, argS, reduceIte, Nat.reduceEqDiff, Nat.reduceAdd, Nat.reduceLT, Nat.reduceLeDiff, A.okCells, A.cells, A.one, splice]
  refine W_seq (W_reg ?_)
  simp only [xs, xl, argS, reduceIte, Nat.reduceEqDiff, Nat.reduceAdd, Nat.reduceLT, Nat.reduceLeDiff, A.okCells, A.cells, A.one, splice]
  refine W_seq (W_seq (W_reg ?_))
  simp only [xs, xl, argS, reduceIte, Nat.reduceEqDiff, Nat.reduceAdd, Nat.reduceLT, Nat.reduceLeDiff, A.okCells, A.cells, A.one, splice]
  refine W_block ?_
  let S : Nat → A → Heap → St := fun i x h => ⟨look [(0, .d (.sl eCe (ceRows l))), (3, x), (4, .int i)], h⟩
  let J : List Gl → A → Heap → Prop := fun out x h => (out = [] ∧ x = .nil ∧ h = []) ∨ (out ≠ [] ∧ x = .ref 2 out.length 0 out.length true ∧ ∃ (c : Ce) (g : Gl), h = [.cells eCe [c.row.map .d], .cells eGl [g.row.map .d], .cells eGl ((glRows out).map fun r => r.map A.d)])
  refine W_co (s' := S 0 .nil []) (Co.keep _ (by simp [x_upd, x_look])) ?_
  refine W_loop (fun m s => ∃ i x h, i ≤ l.length ∧ m = l.length - i ∧ s = S i x h ∧ J (glyphsOf (l.take i)) x h) ⟨0, .nil, [], Nat.zero_le _, rfl, rfl, .inl ⟨rfl, rfl, rfl⟩⟩ ?_
  rintro m s ⟨i, x, h, hi, rfl, rfl, hJ⟩
  refine W_seq (W_seq (W_reg ?_))
  simp only [S, xs, xl, argS, reduceIte, Nat.reduceEqDiff, Nat.reduceAdd, Nat.reduceLT, Nat.reduceLeDiff, A.okCells, A.cells, A.one, splice, ceRows_length]
  refine W_cond rfl (fun hc => W_skip ?_) (fun hc => W_exit ?_)
  · have hlt : i < l.length := by simpa using hc
    have hwi := hw _ (List.getElem_mem hlt)
    have htk := glyphsOf_take hlt
    have hol : (glyphsOf (l.take i)).length ≤ 1000 := Nat.le_trans (glyphsOf_len _) (by simp; omega)
    have f1 : IntKind.i64.wrap ((i : Int) + 1) = ((i + 1 : Nat) : Int) := i64_of (by omega)
    have hget := ceRows_get hlt
    generalize hci : l[i] = c at hwi htk hget
    generalize hout : glyphsOf (l.take i) = out at hJ htk hol
    -- behind the append
    have fin : ∀ (g : Gl) (sl : Nat → A) (h' : Heap), glyphOf c = some g → sl 0 = .d (.sl eCe (ceRows l)) → sl 3 = .ref 2 (out ++ [g]).length 0 (out ++ [g]).length true → sl 4 = .int i →
        (∃ (c' : Ce) (g' : Gl), h'.take 3 = [.cells eCe [c'.row.map .d], .cells eGl [g'.row.map .d], .cells eGl ((glRows (out ++ [g])).map fun r => r.map A.d)]) → 3 ≤ h'.length →
        ∃ s1, Co 0 ⟨sl, h'⟩ s1 ∧ ∃ x h, s1 = S i x h ∧ J (glyphsOf (l.take (i + 1))) x h := fun g sl h' hg a0 a3 a4 ⟨c', g', a5⟩ a6 => by
      refine ⟨S i (.ref 2 (out ++ [g]).length 0 (out ++ [g]).length true) (h'.take 3), ?_, _, _, rfl, .inr ⟨?_, ?_, c', g', ?_⟩⟩
      · refine Co.to _ 3 ?_ (Nat.zero_le _) a6 ?_
        · simp [a0, a3, a4, A.under]
        · intro B hB
          rw [a5] at hB
          simp only [List.mem_cons, List.not_mem_nil, or_false] at hB
          rcases hB with rfl | rfl | rfl
          · exact under_d (rows := [c'.row])
          · exact under_d (rows := [g'.row])
          · exact under_d
      · rw [htk, hg]; simp
      · rw [htk, hg]; rfl
      · rw [a5, htk, hg]; rfl
    simp only [xs, xl, argS, reduceIte, Nat.reduceEqDiff, Nat.reduceAdd, Nat.reduceLT, Nat.reduceLeDiff, A.okCells, A.cells, A.one, splice]
    refine W_seq (W_block (W_seq (W_reg ?_)))
    simp only [xs, xl, argS, reduceIte, Nat.reduceEqDiff, Nat.reduceAdd, Nat.reduceLT, Nat.reduceLeDiff, A.okCells, A.cells, A.one, splice, hget, Ce.row, ceRows_length, hp_g0, hp_s0]
    refine ⟨by omega, by omega, ?_⟩
    refine W_mono (Q := fun e s => e = .normal ∧ ∃ s1, Co 0 s s1 ∧ ∃ x h, s1 = S i x h ∧ J (glyphsOf (l.take (i + 1))) x h) ?_ ?_
    · rintro e s ⟨rfl, s1, hco, x', h', rfl, hJ'⟩
      simp only [xs, xl, argS, reduceIte, Nat.reduceEqDiff, Nat.reduceAdd, Nat.reduceLT, Nat.reduceLeDiff, A.okCells, A.cells, A.one, splice]
      refine W_co hco ?_
      simp only [S]
      refine W_reg ?_
      simp only [xs, xl, argS, reduceIte, Nat.reduceEqDiff, Nat.reduceAdd, Nat.reduceLT, Nat.reduceLeDiff, A.okCells, A.cells, A.one, splice, f1]
      refine ⟨l.length - (i + 1), S (i + 1) x' h', by omega, Co.keep _ ?_, i + 1, x', h', hlt, rfl, rfl, hJ'⟩
      simp [x_upd, x_look]
    rcases hJ with ⟨rfl, rfl, rfl⟩ | ⟨hne, rfl, c0, g0, rfl⟩
    · -- the first
      refine W_seq (W_reg ?_)
      simp only [xs, xl, argS, reduceIte, Nat.reduceEqDiff, Nat.reduceAdd, Nat.reduceLT, Nat.reduceLeDiff, A.okCells, A.cells, A.one, splice]
      refine W_cond rfl (fun hd => ?_) (fun hd => W_seq (W_reg ?_))
      · have hfl : andI .i64 c.flags 64 ≠ 0 := by simpa using hd
        have hg : glyphOf c = some starGl := by simp [glyphOf, hfl]
        refine W_reg ?_
        simp only [xs, xl, argS, reduceIte, Nat.reduceEqDiff, Nat.reduceAdd, Nat.reduceLT, Nat.reduceLeDiff, A.okCells, A.cells, A.one, splice]
        rw [if_neg (by simp)]
        refine ⟨by decide, by decide, ?_⟩
        exact fin starGl _ _ hg rfl rfl rfl ⟨c, starGl, rfl⟩ (by simp)
      have hfl : andI .i64 c.flags 64 = 0 := by simpa using hd
      simp only [xs, xl, argS, reduceIte, Nat.reduceEqDiff, Nat.reduceAdd, Nat.reduceLT, Nat.reduceLeDiff, A.okCells, A.cells, A.one, splice]
      refine W_cond rfl (fun hw1 => ?_) (fun hw1 => W_skip ?_)
      · have hw1 : 0 < c.width := by simpa using hw1
        have hg : glyphOf c = some ⟨c.text, decide (c.width = 2), styleOf c.flags⟩ := by
          rw [glyphOf, if_neg (by simpa using hfl), if_neg (by omega)]
        have hS := Hs c
        simp only [attrA] at hS
        refine W_drw (by simp) ?_
        simp only [xs, xl, argS, reduceIte, Nat.reduceEqDiff, Nat.reduceAdd, Nat.reduceLT, Nat.reduceLeDiff, A.okCells, A.cells, A.one, splice]
        refine c_fn hS rfl ?_
        simp only [xs, xl, argS, reduceIte, Nat.reduceEqDiff, Nat.reduceAdd, Nat.reduceLT, Nat.reduceLeDiff, A.okCells, A.cells, A.one, splice]
        rw [if_neg (by simp)]
        refine ⟨by decide, by decide, ?_⟩
        exact fin _ _ _ hg rfl rfl rfl ⟨c, ⟨c.text, decide (c.width = 2), styleOf c.flags⟩, rfl⟩ (by simp)
      · have hw1 : c.width = 0 := by
          have : ¬ 0 < c.width := by simpa using hw1
          omega
        have hg : glyphOf c = none := by simp [glyphOf, hfl, hw1]
        simp only [xs, xl, argS, reduceIte, Nat.reduceEqDiff, Nat.reduceAdd, Nat.reduceLT, Nat.reduceLeDiff, A.okCells, A.cells, A.one, splice]
        refine ⟨S i .nil [], ?_, _, _, rfl, .inl ⟨by rw [htk, hg]; rfl, rfl, rfl⟩⟩
        exact Co.to _ 0 (by simp [x_upd, x_look, A.under]) (Nat.le_refl _) (Nat.zero_le _) (by simp)
    · -- the others
      refine W_seq (W_reg ?_)
      simp only [xs, xl, argS, reduceIte, Nat.reduceEqDiff, Nat.reduceAdd, Nat.reduceLT, Nat.reduceLeDiff, A.okCells, A.cells, A.one, splice]
      refine W_cond rfl (fun hd => ?_) (fun hd => W_seq (W_reg ?_))
      · have hfl : andI .i64 c.flags 64 ≠ 0 := by simpa using hd
        have hg : glyphOf c = some starGl := by simp [glyphOf, hfl]
        refine W_reg ?_
        have hsn := glB_snoc (l := out) (g := starGl)
        simp only [starGl, Gl.row, List.map_cons, List.map_nil] at hsn
        simp only [xs, xl, argS, reduceIte, Nat.reduceEqDiff, Nat.reduceAdd, Nat.reduceLT, Nat.reduceLeDiff, A.okCells, A.cells, A.one, splice, glRows_len, hsn]
        refine ⟨by simp only [room]; omega, by simp only [maxLen]; omega, ?_⟩
        exact fin starGl _ _ hg rfl (by simp [x_upd]) rfl ⟨c0, g0, rfl⟩ (by simp)
      have hfl : andI .i64 c.flags 64 = 0 := by simpa using hd
      simp only [xs, xl, argS, reduceIte, Nat.reduceEqDiff, Nat.reduceAdd, Nat.reduceLT, Nat.reduceLeDiff, A.okCells, A.cells, A.one, splice]
      refine W_cond rfl (fun hw1 => ?_) (fun hw1 => W_skip ?_)
      · have hw1 : 0 < c.width := by simpa using hw1
        have hg : glyphOf c = some ⟨c.text, decide (c.width = 2), styleOf c.flags⟩ := by
          rw [glyphOf, if_neg (by simpa using hfl), if_neg (by omega)]
        have hS := Hs c
        simp only [attrA] at hS
        have hsn := glB_snoc (l := out) (g := ⟨c.text, decide (c.width = 2), styleOf c.flags⟩)
        simp only [Gl.row, List.map_cons, List.map_nil] at hsn
        refine W_drw (by simp) ?_
        simp only [xs, xl, argS, reduceIte, Nat.reduceEqDiff, Nat.reduceAdd, Nat.reduceLT, Nat.reduceLeDiff, A.okCells, A.cells, A.one, splice]
        refine c_fn hS rfl ?_
        simp only [xs, xl, argS, reduceIte, Nat.reduceEqDiff, Nat.reduceAdd, Nat.reduceLT, Nat.reduceLeDiff, A.okCells, A.cells, A.one, splice, glRows_len, hsn]
        refine ⟨by simp only [room]; omega, by simp only [maxLen]; omega, ?_⟩
        exact fin _ _ _ hg rfl (by simp [x_upd]) rfl ⟨c0, g0, rfl⟩ (by simp)
      · have hw1 : c.width = 0 := by
          have : ¬ 0 < c.width := by simpa using hw1
          omega
        have hg : glyphOf c = none := by simp [glyphOf, hfl, hw1]
        have ht2 : glyphsOf (l.take (i + 1)) = out := by rw [htk, hg]; simp
        simp only [xs, xl, argS, reduceIte, Nat.reduceEqDiff, Nat.reduceAdd, Nat.reduceLT, Nat.reduceLeDiff, A.okCells, A.cells, A.one, splice]
        refine ⟨S i (.ref 2 out.length 0 out.length true) [.cells eCe [c0.row.map .d], .cells eGl [g0.row.map .d], .cells eGl ((glRows out).map fun r => r.map A.d)], ?_, _, _, rfl, .inr ⟨by rw [ht2]; exact hne, by rw [ht2], c0, g0, by rw [ht2]⟩⟩
        refine Co.to _ 3 ?_ (Nat.zero_le _) (by simp) ?_
        · simp [x_upd, x_look, A.under]
        · intro B hB
          simp only [List.take_succ_cons, List.take_zero, List.mem_cons, List.not_mem_nil, or_false] at hB
          rcases hB with rfl | rfl | rfl
          · exact under_d (rows := [c0.row])
          · exact under_d (rows := [g0.row])
          · exact under_d
  · have hii : i = l.length := by simp at hc; omega
    subst hii
    rw [List.take_length] at hJ
    have hol : (glyphsOf l).length ≤ 1000 := Nat.le_trans (glyphsOf_len _) hl
    simp only [xs, xl, argS, reduceIte, Nat.reduceEqDiff, Nat.reduceAdd, Nat.reduceLT, Nat.reduceLeDiff, A.okCells, A.cells, A.one, splice]
    refine W_co (s' := ⟨look [(3, .d (.sl eGl (glRows (glyphsOf l))))], []⟩) ?_ ?_
    · refine Co.frz _ 0 ?_ (Nat.le_refl _) (Nat.zero_le _) (by simp)
      intro p hp
      simp only [List.mem_cons, List.not_mem_nil, or_false] at hp
      subst hp
      rcases hJ with ⟨h1, rfl, rfl⟩ | ⟨hne, rfl, c0, g0, rfl⟩
      · rw [h1]; exact .d (.nil _)
      · have := frz_all (id := 2) (full := true) (e := eGl) (rows := glRows (glyphsOf l)) (h := [.cells eCe [c0.row.map .d], .cells eGl [g0.row.map .d], .cells eGl ((glRows (glyphsOf l)).map fun r => r.map A.d)]) rfl
        rw [glRows_len] at this
        exact this
    · refine W_seq (W_reg ?_)
      simp only [xs, xl, argS, reduceIte, Nat.reduceEqDiff, Nat.reduceAdd, Nat.reduceLT, Nat.reduceLeDiff, A.okCells, A.cells, A.one, splice]
      refine c_fn (Ht _ hol) rfl ?_
      simp only [xs, xl, argS, reduceIte, Nat.reduceEqDiff, Nat.reduceAdd, Nat.reduceLT, Nat.reduceLeDiff, A.okCells, A.cells, A.one, splice]
      refine W_ret (.tmp ?_ rfl)
      simp only [x_upd, reduceIte]; rfl

end Go.Proofs.YtmagahmklndcgaaDoor.Nx

namespace Go.Proofs.YtmagahmklndcgaaDoor.Nx
set_option linter.unusedSimpArgs false
set_option linter.unusedVariables false
set_option linter.unnecessarySimpa false
open Go

variable {P : Program} {N : Nat} {Γ : Tabs}

set_option maxHeartbeats 400000 in
theorem refOf_fn {f fs fr : FuncId} (H : FnIs P f N [.c 2 6 true] (x_ref15_Of fs fr)) (hN : 1 ≤ N) (t : Tm) (Hs : FnP Γ P fs [tmA t] (.bool (showT t)))
    (Hr : ∀ l : List Ce, l.length ≤ 1000 → (∀ c ∈ l, 0 ≤ c.width ∧ c.width ≤ 2) → FnP Γ P fr [.d (.sl eCe (ceRows l))] (.d (.sl eGl (glRows (vRow l))))) : FnP Γ P f [tmA t] (vwA (ofV t)) := by
  refine .of_W H (by simpa using hN) (W_aggsl 0 2 rfl rfl fun ⟨_, hroom, _⟩ => ?_)
  have hlr : t.rows.length ≤ room := le_of_mul (by rw [crRows_len] at hroom; exact hroom)
  have hS := Hs
  simp only [tmA, tmR] at hS
  unfold x_ref15_Of
  refine W_seq (W_reg ?_)
  simp only [tmA, tmR, xs, xl, argS, reduceIte, Nat.reduceEqDiff, Nat.reduceAdd, Nat.reduceLT, Nat.reduceLeDiff, A.okCells, A.cells, A.one, splice, tm_len]
  refine W_seq (W_seq (W_reg ?_))
  simp only [xs, xl, argS, reduceIte, Nat.reduceEqDiff, Nat.reduceAdd, Nat.reduceLT, Nat.reduceLeDiff, A.okCells, A.cells, A.one, splice, tm_len, tm_take]
  refine c_fn hS (tm_under t) ?_
  simp only [xs, xl, argS, reduceIte, Nat.reduceEqDiff, Nat.reduceAdd, Nat.reduceLT, Nat.reduceLeDiff, A.okCells, A.cells, A.one, splice]
  refine W_cond rfl (fun hc => ?_) (fun hc => W_skip ?_)
  · have hsh : showT t = false := by simpa using hc
    refine W_seq (W_reg ?_)
    simp only [xs, xl, argS, reduceIte, Nat.reduceEqDiff, Nat.reduceAdd, Nat.reduceLT, Nat.reduceLeDiff, A.okCells, A.cells, A.one, splice]
    refine W_ret ⟨.inr rfl, ?_⟩
    simp only [readRs, readR, single, x_upd, reduceIte, Nat.reduceEqDiff, x_look, argS, xs, xl, argS, reduceIte, Nat.reduceEqDiff, Nat.reduceAdd, Nat.reduceLT, Nat.reduceLeDiff, A.okCells, A.cells, A.one, splice, loadsTo, ofV, hsh, Bool.false_eq_true]
    exact frz_zero
  · have hsh : showT t = true := by simpa using hc
    obtain ⟨hw, hh⟩ := showT_small hsh
    obtain ⟨hok, _⟩ := showT_rows hsh
    simp only [xs, xl, argS, reduceIte, Nat.reduceEqDiff, Nat.reduceAdd, Nat.reduceLT, Nat.reduceLeDiff, A.okCells, A.cells, A.one, splice]
    refine W_seq (W_reg ?_)
    simp only [xs, xl, argS, reduceIte, Nat.reduceEqDiff, Nat.reduceAdd, Nat.reduceLT, Nat.reduceLeDiff, A.okCells, A.cells, A.one, splice, tm_vis]
    refine W_seq (W_seq (W_reg ?_))
    simp only [xs, xl, argS, reduceIte, Nat.reduceEqDiff, Nat.reduceAdd, Nat.reduceLT, Nat.reduceLeDiff, A.okCells, A.cells, A.one, splice]
    refine W_block ?_
    let R : Nat → List (List Gl) := fun k => (t.rows.take k).map vRow
    have hRl : ∀ k, k ≤ t.rows.length → (R k).length = k := fun k hk => by simp [R]; omega
    have hRs : ∀ k (hk : k < t.rows.length), R (k + 1) = R k ++ [vRow t.rows[k]] := fun k hk => by
      simp only [R]
      rw [List.take_add_one, List.getElem?_eq_getElem hk, Option.toList_some, List.map_append]; rfl
    let Hp : Nat → Heap := fun k => if k = 0 then [tmB t, zB, vB t .nil] else [tmB t, zB, vB t (.ref 4 k 0 k true), rwB (R 1), rwB (R k)]
    let S : Nat → St := fun k => ⟨look [(1, .ptr 0 1 0 0), (2, .ptr 1 1 0 0), (3, .ptr 2 1 0 0), (4, .int k)], Hp k⟩
    refine W_co (s' := S 0) (Co.keep _ (by simp [x_upd, x_look])) ?_
    refine W_loop (fun m s => ∃ k, k ≤ t.rows.length ∧ m = t.rows.length - k ∧ s = S k) ⟨0, Nat.zero_le _, rfl, rfl⟩ ?_
    rintro m s ⟨k, hk, rfl, rfl⟩
    have hget0 : (Hp k)[0]? = some (tmB t) := by
      simp only [Hp]; split <;> rfl
    refine W_seq (W_seq (W_reg ?_))
    simp only [S, xs, xl, argS, reduceIte, Nat.reduceEqDiff, Nat.reduceAdd, Nat.reduceLT, Nat.reduceLeDiff, A.okCells, A.cells, A.one, splice, hget0, tmB, tmR, crRows_len]
    refine W_cond rfl (fun hc => W_skip ?_) (fun hc => W_exit ?_)
    · have hlt : k < t.rows.length := by simpa using hc
      have hwl := hw _ (List.getElem_mem hlt)
      have hRl1 := Hr t.rows[k] (by omega) (checkR_width (hok _ (List.getElem_mem hlt)).2.1)
      have f1' : IntKind.i64.wrap ((k : Int) + 1) = ((k + 1 : Nat) : Int) := i64_of (by omega)
      have k1 : (0 : Int) ≤ (k : Int) := by omega
      have k2 : ((k : Int) < (t.rows.length : Int)) := by omega
      have hgk : (crRows t.rows).getD k [] = [.sl eCe (ceRows t.rows[k])] := crRows_get hlt
      have hs1 := hRs k hlt
      generalize t.rows[k] = L at hRl1 hgk hs1
      simp only [xs, xl, argS, reduceIte, Nat.reduceEqDiff, Nat.reduceAdd, Nat.reduceLT, Nat.reduceLeDiff, A.okCells, A.cells, A.one, splice]
      rcases Nat.eq_zero_or_pos k with rfl | hpos
      · have hR1 : (rwRows (R 1)).map (fun r => r.map A.d) = [[.d (.sl eGl (glRows (vRow L)))]] := by
          rw [show R 1 = R 0 ++ [vRow L] from hs1]
          simp [R, rwRows]
        refine W_seq (W_block (W_drw (by simp) ?_))
        simp only [Hp, vB, tmB, tmR, xs, xl, argS, reduceIte, Nat.reduceEqDiff, Nat.reduceAdd, Nat.reduceLT, Nat.reduceLeDiff, A.okCells, A.cells, A.one, splice, hgk, crRows_len, k1, k2]
        refine c_fn hRl1 rfl ?_
        simp only [xs, xl, argS, reduceIte, Nat.reduceEqDiff, Nat.reduceAdd, Nat.reduceLT, Nat.reduceLeDiff, A.okCells, A.cells, A.one, splice]
        rw [if_neg (by simp)]
        refine ⟨by decide, by decide, ?_⟩
        refine W_reg ?_
        simp only [xs, xl, argS, reduceIte, Nat.reduceEqDiff, Nat.reduceAdd, Nat.reduceLT, Nat.reduceLeDiff, A.okCells, A.cells, A.one, splice, f1']
        refine ⟨t.rows.length - 1, S 1, by omega, ?_, 1, hlt, rfl, rfl⟩
        have e1 : S 1 = ⟨look [(1, .ptr 0 1 0 0), (2, .ptr 1 1 0 0), (3, .ptr 2 1 0 0), (4, .int ((0 + 1 : Nat) : Int))], [tmB t, zB, vB t (.ref 4 1 0 1 true), .cells eRw [[.d (.sl eGl (glRows (vRow L)))]], .cells eRw [[.d (.sl eGl (glRows (vRow L)))]]]⟩ := by
          simp only [S, Hp, rwB, hR1]; rfl
        rw [e1]
        exact Co.keep _ (by simp [x_upd, x_look])
      · obtain ⟨k, rfl⟩ : ∃ k', k = k' + 1 := ⟨k - 1, by omega⟩
        have hHp : Hp (k + 1) = [tmB t, zB, vB t (.ref 4 (k + 1) 0 (k + 1) true), rwB (R 1), rwB (R (k + 1))] := by simp only [Hp, if_neg (Nat.succ_ne_zero k)]
        rw [hHp]
        have hl1 := hRl (k + 1) (by omega)
        have hsn := rwB_snoc (l := R (k + 1)) (g := vRow L)
        rw [← hs1] at hsn
        refine W_seq (W_block (W_drw (by simp) ?_))
        simp only [vB, tmB, tmR, xs, xl, argS, reduceIte, Nat.reduceEqDiff, Nat.reduceAdd, Nat.reduceLT, Nat.reduceLeDiff, A.okCells, A.cells, A.one, splice, hgk, crRows_len, k1, k2]
        refine c_fn hRl1 rfl ?_
        simp only [rwB, xs, xl, argS, reduceIte, Nat.reduceEqDiff, Nat.reduceAdd, Nat.reduceLT, Nat.reduceLeDiff, A.okCells, A.cells, A.one, splice, rwRows_len, rwB_len, hl1, hsn]
        refine ⟨by simp only [room]; omega, by simp only [maxLen]; omega, ?_⟩
        refine W_reg ?_
        simp only [xs, xl, argS, reduceIte, Nat.reduceEqDiff, Nat.reduceAdd, Nat.reduceLT, Nat.reduceLeDiff, A.okCells, A.cells, A.one, splice, f1']
        refine ⟨t.rows.length - (k + 1 + 1), S (k + 1 + 1), by omega, ?_, k + 1 + 1, hlt, rfl, rfl⟩
        have e1 : S (k + 1 + 1) = ⟨look [(1, .ptr 0 1 0 0), (2, .ptr 1 1 0 0), (3, .ptr 2 1 0 0), (4, .int ((k + 1 + 1 : Nat) : Int))], [tmB t, zB, vB t (.ref 4 (k + 1 + 1) 0 (k + 1 + 1) true), rwB (R 1), rwB (R (k + 1 + 1))]⟩ := by
          simp only [S, Hp, if_neg (Nat.succ_ne_zero (k + 1))]
        rw [e1]
        refine Co.to _ 5 ?_ (Nat.zero_le _) (by simp) ?_
        · simp [x_upd, x_look, A.under]
        · intro B hB
          simp only [List.take_succ_cons, List.take_zero, List.mem_cons, List.not_mem_nil, or_false] at hB
          rcases hB with rfl | rfl | rfl | rfl | rfl
          · exact under_tm
          · exact under_z
          · exact under_v (by simp [A.under])
          · exact under_d
          · exact under_d
    · have hle : k = t.rows.length := by simp at hc; omega
      subst hle
      have hRa : R t.rows.length = t.rows.map fun l => trimGl (glyphsOf l) := by simp only [R, List.take_length]; rfl
      have hofV : ofV t = ⟨t.w, t.h, R t.rows.length, t.row, t.col, t.vis⟩ := by rw [ofV, if_pos hsh, hRa]
      rw [hofV]
      simp only [xs, xl, argS, reduceIte, Nat.reduceEqDiff, Nat.reduceAdd, Nat.reduceLT, Nat.reduceLeDiff, A.okCells, A.cells, A.one, splice]
      rcases Nat.eq_zero_or_pos t.rows.length with h0 | hpos
      · have hR0 : R t.rows.length = [] := List.eq_nil_of_length_eq_zero (by rw [hRl _ (Nat.le_refl _), h0])
        have hHp : Hp t.rows.length = [tmB t, zB, vB t .nil] := by simp only [Hp, if_pos h0]
        rw [hHp, hR0]
        refine W_seq (W_reg ?_)
        simp only [vB, zB, xs, xl, argS, reduceIte, Nat.reduceEqDiff, Nat.reduceAdd, Nat.reduceLT, Nat.reduceLeDiff, A.okCells, A.cells, A.one, splice]
        refine W_ret ⟨.inr rfl, ?_⟩
        simp only [readRs, readR, single, x_upd, reduceIte, Nat.reduceEqDiff, x_look, xs, xl, argS, reduceIte, Nat.reduceEqDiff, Nat.reduceAdd, Nat.reduceLT, Nat.reduceLeDiff, A.okCells, A.cells, A.one, splice, loadsTo]
        exact frz_view (.d (.nil _))
      · have hHp : Hp t.rows.length = [tmB t, zB, vB t (.ref 4 t.rows.length 0 t.rows.length true), rwB (R 1), rwB (R t.rows.length)] := by simp only [Hp, if_neg (by omega : ¬ t.rows.length = 0)]
        rw [hHp]
        refine W_seq (W_reg ?_)
        simp only [vB, zB, xs, xl, argS, reduceIte, Nat.reduceEqDiff, Nat.reduceAdd, Nat.reduceLT, Nat.reduceLeDiff, A.okCells, A.cells, A.one, splice]
        refine W_ret ⟨.inr rfl, ?_⟩
        simp only [readRs, readR, single, x_upd, reduceIte, Nat.reduceEqDiff, x_look, xs, xl, argS, reduceIte, Nat.reduceEqDiff, Nat.reduceAdd, Nat.reduceLT, Nat.reduceLeDiff, A.okCells, A.cells, A.one, splice, loadsTo]
        refine frz_view ?_
        have hl := hRl _ (Nat.le_refl t.rows.length)
        have := frz_all (id := 4) (full := true) (e := eRw) (rows := rwRows (R t.rows.length)) (h := [tmB t, .cells eVw [[.int t.w, .int t.h, .ref 4 t.rows.length 0 t.rows.length true, .int t.row, .int t.col, .bool t.vis]], .cells eVw [[.int t.w, .int t.h, .ref 4 t.rows.length 0 t.rows.length true, .int t.row, .int t.col, .bool t.vis]], rwB (R 1), rwB (R t.rows.length)]) rfl
        rw [rwRows_len, hl] at this
        exact this

/-! ### the law ViewOf -/
theorem largeT_texts {t : Tm} (h : largeT t = false) : ∀ l ∈ t.rows, ∀ c ∈ l, c.text.size ≤ 1000 := fun l hl c hc => by
  have := ((largeT_small h).2 l hl).2 c hc
  omega

theorem viewOfLaw_fn {f fl fa fo fr fs : FuncId} (H : FnIs P f N [.t 2] (x_law15_ViewOf fl fa fo fr fs)) (hN : 1 ≤ N) (Hl : ∀ t, FnP Γ P fl [tmA t] (.bool (largeT t))) (Ha : FnP Γ P fa [] (.bool true))
    (Ho : ∀ t : Tm, (∀ l ∈ t.rows, ∀ c ∈ l, c.text.size ≤ 1000) → FnP Γ P fo [tmA t] (vwA (ofV t))) (Hr : ∀ t : Tm, (∀ l ∈ t.rows, ∀ c ∈ l, c.text.size ≤ 1000) → FnP Γ P fr [tmA t] (vwA (ofV t)))
    (Hs : ∀ v u, FnP Γ P fs [vwA v, vwA u] (.bool (decide (v = u)))) (t : Tm) : FnP Γ P f [tmA t] (.bool true) := by
  refine .of_W H (by simpa using hN) ?_
  have hL := Hl t
  simp only [tmA, tmR] at hL
  unfold x_law15_ViewOf
  refine W_seq (W_reg ?_)
  simp only [tmA, tmR, xs, xl, argS, reduceIte, Nat.reduceEqDiff, Nat.reduceAdd, Nat.reduceLT, Nat.reduceLeDiff, A.okCells, A.cells, A.one, splice, tm_len]
  refine W_seq (W_seq (W_reg ?_))
  simp only [xs, xl, argS, reduceIte, Nat.reduceEqDiff, Nat.reduceAdd, Nat.reduceLT, Nat.reduceLeDiff, A.okCells, A.cells, A.one, splice, tm_len, tm_take]
  refine c_fn hL (tm_under t) ?_
  simp only [xs, xl, argS, reduceIte, Nat.reduceEqDiff, Nat.reduceAdd, Nat.reduceLT, Nat.reduceLeDiff, A.okCells, A.cells, A.one, splice]
  refine W_cond rfl (fun hc => ?_) (fun hc => W_skip ?_)
  · refine W_seq (W_reg ?_)
    simp only [xs, xl, argS, reduceIte, Nat.reduceEqDiff, Nat.reduceAdd, Nat.reduceLT, Nat.reduceLeDiff, A.okCells, A.cells, A.one, splice]
    refine c_fn Ha rfl ?_
    simp only [xs, xl, argS, reduceIte, Nat.reduceEqDiff, Nat.reduceAdd, Nat.reduceLT, Nat.reduceLeDiff, A.okCells, A.cells, A.one, splice]
    refine W_ret (.tmp ?_ rfl)
    simp only [x_upd, reduceIte]
  · have hx := largeT_texts hc
    have hO := Ho t hx
    have hR := Hr t hx
    have hS := Hs (ofV t) (ofV t)
    have e1 : decide (ofV t = ofV t) = true := by simp
    rw [e1] at hS
    simp only [tmA, tmR] at hO hR
    simp only [xs, xl, argS, reduceIte, Nat.reduceEqDiff, Nat.reduceAdd, Nat.reduceLT, Nat.reduceLeDiff, A.okCells, A.cells, A.one, splice]
    refine W_sdrw (by simp) fun K hK => ?_
    refine run_take 5 fun K1 hK1 => ?_
    simp only [xs, xl, argS, reduceIte, Nat.reduceEqDiff, Nat.reduceAdd, Nat.reduceLT, Nat.reduceLeDiff, A.okCells, A.cells, A.one, splice, tm_len, tm_take]
    refine c_fn hO (tm_under t) ?_
    simp only [xs, xl, argS, reduceIte, Nat.reduceEqDiff, Nat.reduceAdd, Nat.reduceLT, Nat.reduceLeDiff, A.okCells, A.cells, A.one, splice, tm_len, tm_take]
    refine c_fn hR (tm_under t) ?_
    simp only [xs, xl, argS, reduceIte, Nat.reduceEqDiff, Nat.reduceAdd, Nat.reduceLT, Nat.reduceLeDiff, A.okCells, A.cells, A.one, splice]
    refine c_fn hS rfl ?_
    simp only [xs, xl, argS, reduceIte, Nat.reduceEqDiff, Nat.reduceAdd, Nat.reduceLT, Nat.reduceLeDiff, A.okCells, A.cells, A.one, splice]
    refine hK1 _ ?_
    simp only [xs, xl, argS, reduceIte, Nat.reduceEqDiff, Nat.reduceAdd, Nat.reduceLT, Nat.reduceLeDiff, A.okCells, A.cells, A.one, splice]
    refine c_fn Ha rfl ?_
    simp only [xs, xl, argS, reduceIte, Nat.reduceEqDiff, Nat.reduceAdd, Nat.reduceLT, Nat.reduceLeDiff, A.okCells, A.cells, A.one, splice]
    refine hK _ ?_
    refine W_ret (.tmp ?_ rfl)
    simp only [x_upd, reduceIte]

end Go.Proofs.YtmagahmklndcgaaDoor.Nx

namespace Go.Proofs.YtmagahmklndcgaaDoor.Nx
set_option linter.unusedSimpArgs false
set_option linter.unusedVariables false
set_option linter.unnecessarySimpa false
open Go

variable {P : Program} {N : Nat} {Γ : Tabs}

theorem star_ok : glyphC starGl = 0 := by decide +kernel
theorem styleOf_le {n : Int} (h : andI .i64 n 64 = 0) : 0 ≤ styleOf n ∧ styleOf n ≤ 2 := by
  unfold styleOf
  rw [if_neg (by simpa using h)]
  split
  · decide
  · split <;> decide
theorem glyph_ok {c : Ce} (h : andI .i64 c.flags 64 = 0) (hk : chkC c.text = 0) (hw : widC c.text = c.width) : glyphC ⟨c.text, decide (c.width = 2), styleOf c.flags⟩ = 0 := by
  have hs := styleOf_le h
  have hb : badG ⟨c.text, decide (c.width = 2), styleOf c.flags⟩ = false := by
    simp only [badG, hw]
    have h1 : decide (styleOf c.flags < 0) = false := decide_eq_false (by omega)
    have h2 : decide (3 < styleOf c.flags) = false := decide_eq_false (by omega)
    have h3 : decide (styleOf c.flags = 3) = false := decide_eq_false (by omega)
    rw [h1, h2, h3]; simp
  rw [glyphC, if_pos hk, hb]; rfl

/-- What the glyphs of a proper row are. -/
theorem rowCk_glyphs : ∀ (n : Nat) (l : List Ce), l.length ≤ n → rowCk l = 0 → (∀ g ∈ glyphsOf l, glyphC g = 0) ∧ widthN (glyphsOf l) = l.length
  | 0, l, hl, _ => by
    have : l = [] := List.eq_nil_of_length_eq_zero (by omega)
    subst this; exact ⟨by simp [glyphsOf], rfl⟩
  | n + 1, [], _, _ => ⟨by simp [glyphsOf], rfl⟩
  | n + 1, a :: l, hl, h => by
    rw [rowCk.eq_def] at h
    simp only at h
    simp only [List.length_cons] at hl
    split at h
    · cases h
    · rename_i hw
      have hw : a.width = 1 ∨ a.width = 2 := Decidable.not_not.1 hw
      split at h
      · rename_i hk
        split at h
        · rename_i hv
          split at h
          · rename_i h2
            cases l with
            | nil => cases h
            | cons d l' =>
              simp only at h
              split at h
              · rename_i hd
                simp only [List.length_cons] at hl
                obtain ⟨i1, i2⟩ := rowCk_glyphs n l' (by omega) h
                by_cases hf : andI .i64 a.flags 64 = 0
                · have ga : glyphOf a = some ⟨a.text, decide (a.width = 2), styleOf a.flags⟩ := by
                    rw [glyphOf, if_neg (by simpa using hf), if_neg (by omega)]
                  have gd : glyphOf d = none := by
                    rw [hd, glyphOf, if_neg (by simpa [pairC] using hf), if_pos (by rfl)]
                  have e : glyphsOf (a :: d :: l') = ⟨a.text, decide (a.width = 2), styleOf a.flags⟩ :: glyphsOf l' := by
                    simp only [glyphsOf, List.filterMap_cons, ga, gd]
                  rw [e]
                  refine ⟨fun g hg => ?_, ?_⟩
                  · rcases List.mem_cons.1 hg with rfl | hg
                    · exact glyph_ok hf hk hv
                    · exact i1 g hg
                  · simp only [widthN, gw, h2, decide_true, if_true, i2, List.length_cons]; omega
                · have ga : glyphOf a = some starGl := by rw [glyphOf, if_pos hf]
                  have gd : glyphOf d = some starGl := by
                    rw [hd, glyphOf, if_pos (by simpa [pairC] using hf)]
                  have e : glyphsOf (a :: d :: l') = starGl :: starGl :: glyphsOf l' := by
                    simp only [glyphsOf, List.filterMap_cons, ga, gd]
                  rw [e]
                  refine ⟨fun g hg => ?_, ?_⟩
                  · rcases List.mem_cons.1 hg with rfl | hg
                    · exact star_ok
                    · rcases List.mem_cons.1 hg with rfl | hg
                      · exact star_ok
                      · exact i1 g hg
                  · simp only [widthN, gw, starGl, i2, List.length_cons]; simp; omega
              · cases h
          · rename_i h2
            obtain ⟨i1, i2⟩ := rowCk_glyphs n l (by omega) h
            by_cases hf : andI .i64 a.flags 64 = 0
            · have ga : glyphOf a = some ⟨a.text, decide (a.width = 2), styleOf a.flags⟩ := by
                rw [glyphOf, if_neg (by simpa using hf), if_neg (by omega)]
              have e : glyphsOf (a :: l) = ⟨a.text, decide (a.width = 2), styleOf a.flags⟩ :: glyphsOf l := by
                simp only [glyphsOf, List.filterMap_cons, ga]
              rw [e]
              refine ⟨fun g hg => ?_, ?_⟩
              · rcases List.mem_cons.1 hg with rfl | hg
                · exact glyph_ok hf hk hv
                · exact i1 g hg
              · have : decide (a.width = 2) = false := decide_eq_false h2
                simp only [widthN, gw, this, i2, List.length_cons]; simp; omega
            · have ga : glyphOf a = some starGl := by rw [glyphOf, if_pos hf]
              have e : glyphsOf (a :: l) = starGl :: glyphsOf l := by
                simp only [glyphsOf, List.filterMap_cons, ga]
              rw [e]
              refine ⟨fun g hg => ?_, ?_⟩
              · rcases List.mem_cons.1 hg with rfl | hg
                · exact star_ok
                · exact i1 g hg
              · simp only [widthN, gw, starGl, i2, List.length_cons]; simp; omega
        · cases h
      · cases h

theorem fnz_zero {α : Type} {F : α → Int} : ∀ {l : List α}, (∀ a ∈ l, F a = 0) → fnz F l = 0
  | [], _ => rfl
  | a :: l, h => by
    rw [fnz, if_pos (h a (List.mem_cons_self ..))]
    exact fnz_zero fun b hb => h b (List.mem_cons_of_mem _ hb)
theorem widthN_take (l : List Gl) (n : Nat) : widthN (l.take n) ≤ widthN l := by
  conv => rhs; rw [← List.take_append_drop n l, widthN_app]
  omega
theorem trim_ends (l : List Gl) : endsBlank (trimGl l) = false := by
  cases hk : (trimGl l).length with
  | zero =>
    have : trimGl l = [] := List.eq_nil_of_length_eq_zero hk
    rw [this]; rfl
  | succ k =>
    rw [endsBlank_at hk]
    refine decide_eq_false fun he => ?_
    have h1 : l[k]? ≠ some spaceGl := trimN_last l l.length k (by rw [← trimGl_len]; exact hk)
    have hkl : k < (trimGl l).length := by omega
    have h2 : (trimGl l)[k]? = l[k]? := by rw [trimGl, List.getElem?_take, if_pos (by rw [← trimGl_len]; omega)]
    rw [← h2, List.getElem?_eq_getElem hkl, he] at h1
    exact h1 rfl
theorem vRow_ok {l : List Ce} (h : checkR l = 0) : rowC l.length (vRow l) = 0 := by
  have h0 : rowCk l = 0 := by
    unfold checkR at h
    split at h
    · cases h
    · exact h
  obtain ⟨h1, h2⟩ := rowCk_glyphs l.length l (Nat.le_refl _) h0
  have hz : fnz glyphC (vRow l) = 0 := fnz_zero fun g hg => h1 g (List.mem_of_mem_take hg)
  have hw := widthN_take (glyphsOf l) (trimN (glyphsOf l) (glyphsOf l).length)
  rw [rowC, if_pos hz, if_neg, vRow, trim_ends]
  · simp
  · rw [h2] at hw
    show ¬ ((l.length : Int) < (widthN (trimGl (glyphsOf l)) : Int))
    unfold trimGl
    omega

theorem ofV_ok {t : Tm} (h : showT t = true) : viewC (ofV t) = 0 := by
  obtain ⟨h1, h2⟩ := showT_rows h
  simp only [badT, Bool.or_eq_false_iff, Bool.not_eq_false', decide_eq_true_eq] at h2
  obtain ⟨⟨⟨⟨⟨a1, a2⟩, a3⟩, a4⟩, a5⟩, a6⟩ := h2
  rw [ofV, if_pos h]
  have ho : outV ⟨t.w, t.h, t.rows.map fun l => trimGl (glyphsOf l), t.row, t.col, t.vis⟩ = false := by
    simp only [outV, a3, a4, a5, a6, Bool.or_self]
  rw [viewC, if_pos a1, if_pos (by simpa using a2), ho]
  simp only [Bool.false_eq_true, if_false]
  refine fnz_zero fun r hr => ?_
  obtain ⟨l, hl, rfl⟩ := List.mem_map.1 hr
  obtain ⟨b1, b2, _⟩ := h1 l hl
  have := vRow_ok b2
  rw [b1] at this
  exact this
theorem zeroV_bad : viewC zeroV = 2 := by decide +kernel
theorem blankV_ok {w h : Int} (hs : szOk w h = true) : viewC (blankV w h) = 0 := by
  obtain ⟨⟨a1, a2⟩, a3, a4⟩ := szOk_le hs
  have ho : outV (blankV w h) = false := by
    have e1 : decide (h ≤ 0) = false := decide_eq_false (by omega)
    have e2 : decide (w ≤ 0) = false := decide_eq_false (by omega)
    show (((decide ((0 : Int) < 0) || decide (h ≤ 0)) || decide ((0 : Int) < 0)) || decide (w ≤ 0)) = false
    rw [e1, e2]; rfl
  have hl : ((blankV w h).rows.length : Int) = (blankV w h).height := by
    simp only [blankV, List.length_replicate]; omega
  rw [viewC, if_pos (show szOk (blankV w h).width (blankV w h).height = true from hs), if_pos hl, ho]
  simp only [Bool.false_eq_true, if_false]
  refine fnz_zero fun r hr => ?_
  have : r = [] := by simp only [blankV] at hr; exact (List.mem_replicate.1 hr).2
  subst this
  have e3 : ¬ (blankV w h).width < ((widthN [] : Nat) : Int) := by
    show ¬ w < ((0 : Nat) : Int)
    omega
  rw [rowC, if_pos (by rfl), if_neg e3]; rfl

theorem ofV_texts {t : Tm} (h : ∀ l ∈ t.rows, ∀ c ∈ l, c.text.size ≤ 1000) : ∀ l ∈ (ofV t).rows, ∀ g ∈ l, g.text.size ≤ 1000 := by
  intro l hl g hg
  unfold ofV at hl
  split at hl
  · obtain ⟨r, hr, rfl⟩ := List.mem_map.1 hl
    have hg := List.mem_of_mem_take hg
    obtain ⟨c, hc, he⟩ := List.mem_filterMap.1 hg
    have := h r hr c hc
    unfold glyphOf at he
    split at he
    · cases he; decide
    · split at he
      · cases he
      · cases he; exact this
  · simp [zeroV] at hl
theorem blankV_texts {w h : Int} : ∀ l ∈ (blankOf w h).rows, ∀ g ∈ l, g.text.size ≤ 1000 := by
  intro l hl g hg
  unfold blankOf at hl
  split at hl
  · have : l = [] := by simp only [blankV] at hl; exact (List.mem_replicate.1 hl).2
    subst this; simp at hg
  · simp [zeroV] at hl


/-! ### the law ViewProper -/
theorem viewProperLaw_fn {f fl fa fo fs fc fb : FuncId} (H : FnIs P f N [.t 6] (x_law15_ViewProper fl fa fo fs fc fb)) (hN : 3 ≤ N) (Hl : ∀ t, FnP Γ P fl [tmA t] (.bool (largeT t))) (Ha : FnP Γ P fa [] (.bool true))
    (Ho : ∀ t : Tm, (∀ l ∈ t.rows, ∀ c ∈ l, c.text.size ≤ 1000) → FnP Γ P fo [tmA t] (vwA (ofV t))) (Hs : ∀ t : Tm, (∀ l ∈ t.rows, ∀ c ∈ l, c.text.size ≤ 1000) → FnP Γ P fs [tmA t] (.bool (showT t)))
    (Hc : ∀ v : Vw, (∀ l ∈ v.rows, ∀ g ∈ l, g.text.size ≤ 1000) → FnP Γ P fc [vwA v] (.int (viewC v))) (Hb : ∀ w h, FnP Γ P fb [.int w, .int h] (.tup [vwA (blankOf w h), .int (if szOk w h then 0 else 2)]))
    (t : Tm) (w h : Int) : FnP Γ P f [tmA t, .int w, .int h] (.bool true) := by
  refine .of_W H (by simpa using hN) ?_
  have hL := Hl t
  simp only [tmA, tmR] at hL
  unfold x_law15_ViewProper
  refine W_seq (W_reg ?_)
  simp only [tmA, tmR, xs, xl, argS, reduceIte, Nat.reduceEqDiff, Nat.reduceAdd, Nat.reduceLT, Nat.reduceLeDiff, A.okCells, A.cells, A.one, splice, tm_len]
  refine W_seq (W_seq (W_reg ?_))
  simp only [xs, xl, argS, reduceIte, Nat.reduceEqDiff, Nat.reduceAdd, Nat.reduceLT, Nat.reduceLeDiff, A.okCells, A.cells, A.one, splice, tm_len, tm_take]
  refine c_fn hL (tm_under t) ?_
  simp only [xs, xl, argS, reduceIte, Nat.reduceEqDiff, Nat.reduceAdd, Nat.reduceLT, Nat.reduceLeDiff, A.okCells, A.cells, A.one, splice]
  refine W_cond rfl (fun hc => ?_) (fun hc => W_skip ?_)
  · refine W_seq (W_reg ?_)
    simp only [xs, xl, argS, reduceIte, Nat.reduceEqDiff, Nat.reduceAdd, Nat.reduceLT, Nat.reduceLeDiff, A.okCells, A.cells, A.one, splice]
    refine c_fn Ha rfl ?_
    simp only [xs, xl, argS, reduceIte, Nat.reduceEqDiff, Nat.reduceAdd, Nat.reduceLT, Nat.reduceLeDiff, A.okCells, A.cells, A.one, splice]
    refine W_ret (.tmp ?_ rfl)
    simp only [x_upd, reduceIte]
  have hx := largeT_texts hc
  have hO := Ho t hx
  have hS := Hs t hx
  have hC := Hc (ofV t) (ofV_texts hx)
  have hofz : showT t = false → viewC (ofV t) = 2 := fun h => by rw [ofV, h]; exact zeroV_bad
  have hofo : showT t = true → viewC (ofV t) = 0 := ofV_ok
  have hofe : showT t = true → (ofV t).width = t.w ∧ (ofV t).height = t.h ∧ (ofV t).row = t.row ∧ (ofV t).col = t.col ∧ (ofV t).vis = t.vis := fun h => by
    rw [ofV, if_pos h]; exact ⟨rfl, rfl, rfl, rfl, rfl⟩
  generalize ofV t = V at hO hC hofz hofo hofe
  simp only [tmA, tmR] at hO hS
  simp only [vwA, Vw.ds, List.map_cons, List.map_nil] at hO hC
  simp only [xs, xl, argS, reduceIte, Nat.reduceEqDiff, Nat.reduceAdd, Nat.reduceLT, Nat.reduceLeDiff, A.okCells, A.cells, A.one, splice]
  refine W_seq (W_reg ?_)
  simp only [xs, xl, argS, reduceIte, Nat.reduceEqDiff, Nat.reduceAdd, Nat.reduceLT, Nat.reduceLeDiff, A.okCells, A.cells, A.one, splice, tm_len, tm_take]
  refine c_fn hO (tm_under t) ?_
  simp only [xs, xl, argS, reduceIte, Nat.reduceEqDiff, Nat.reduceAdd, Nat.reduceLT, Nat.reduceLeDiff, A.okCells, A.cells, A.one, splice]
  let U : List (Nat × A) → St := fun l => ⟨look ((1, .int w) :: (2, .int h) :: (3, .ptr 0 1 0 0) :: (7, .ptr 1 1 0 0) :: l), [tmB t, vwB V]⟩
  refine W_co (s' := U []) (Co.keep _ (by simp [x_upd, x_look])) ?_
  refine W_cut (· = U []) ?_ ?_
  · refine W_seq (W_reg ?_)
    simp only [U, tmB, tmR, xs, xl, argS, reduceIte, Nat.reduceEqDiff, Nat.reduceAdd, Nat.reduceLT, Nat.reduceLeDiff, A.okCells, A.cells, A.one, splice, tm_len, tm_take]
    refine c_fn hS (tm_under t) ?_
    simp only [xs, xl, argS, reduceIte, Nat.reduceEqDiff, Nat.reduceAdd, Nat.reduceLT, Nat.reduceLeDiff, A.okCells, A.cells, A.one, splice]
    refine W_cond rfl (fun hd => ?_) (fun hd => ?_)
    · have h0 := hofo hd
      obtain ⟨e1, e2, e3, e4, e5⟩ := hofe hd
      have q : ∀ a : Int, decide (a = a) = true := fun a => by simp
      have q0 : decide ((0 : Int) = 0) = true := rfl
      have qb : ∀ b : Bool, (b != b) = false := fun b => by cases b <;> rfl
      rw [h0] at hC
      rw [e1, e2, e3, e4, e5] at hC
      refine W_cutX (· = U [(61, .bool false)]) rfl (fun K hK => ?_) ?_
      · refine run_take 4 fun K1 hK1 => ?_
        simp only [vwB, Vw.ds, e1, e2, e3, e4, e5, xs, xl, argS, reduceIte, Nat.reduceEqDiff, Nat.reduceAdd, Nat.reduceLT, Nat.reduceLeDiff, A.okCells, A.cells, A.one, splice]
        refine c_fn hC rfl ?_
        simp only [xs, xl, argS, reduceIte, Nat.reduceEqDiff, Nat.reduceAdd, Nat.reduceLT, Nat.reduceLeDiff, A.okCells, A.cells, A.one, splice, q0]
        refine hK1 _ ?_
        refine run_take 8 fun K1 hK1 => ?_
        simp only [xs, xl, argS, reduceIte, Nat.reduceEqDiff, Nat.reduceAdd, Nat.reduceLT, Nat.reduceLeDiff, A.okCells, A.cells, A.one, splice, q]
        refine hK1 _ ?_
        refine run_take 8 fun K1 hK1 => ?_
        simp only [xs, xl, argS, reduceIte, Nat.reduceEqDiff, Nat.reduceAdd, Nat.reduceLT, Nat.reduceLeDiff, A.okCells, A.cells, A.one, splice, q]
        refine hK1 _ ?_
        refine run_take 8 fun K1 hK1 => ?_
        simp only [xs, xl, argS, reduceIte, Nat.reduceEqDiff, Nat.reduceAdd, Nat.reduceLT, Nat.reduceLeDiff, A.okCells, A.cells, A.one, splice, q]
        refine hK1 _ ?_
        refine run_take 8 fun K1 hK1 => ?_
        simp only [xs, xl, argS, reduceIte, Nat.reduceEqDiff, Nat.reduceAdd, Nat.reduceLT, Nat.reduceLeDiff, A.okCells, A.cells, A.one, splice, q]
        refine hK1 _ ?_
        simp only [xs, xl, argS, reduceIte, Nat.reduceEqDiff, Nat.reduceAdd, Nat.reduceLT, Nat.reduceLeDiff, A.okCells, A.cells, A.one, splice, tm_vis, qb]
        refine hK _ (U [(61, .bool false)]) ?_ rfl
        have eV : [tmB t, vwB V] = [tmB t, .cells eVw [[.int t.w, .int t.h, .d (.sl eRw (rwRows V.rows)), .int t.row, .int t.col, .bool t.vis]]] := by
          simp only [vwB, Vw.ds, List.map_cons, List.map_nil, e1, e2, e3, e4, e5]
        simp only [U]
        rw [eV]
        exact Co.keep _ (by simp [x_upd, x_look])
      · rintro _ rfl
        refine W_cond rfl (fun hd => by cases hd) (fun _ => W_skip ?_)
        exact ⟨rfl, U [], Co.keep _ (by simp [U, x_look]), rfl⟩
    · have h2 := hofz hd
      rw [h2] at hC
      refine W_seq (W_reg ?_)
      simp only [vwB, Vw.ds, xs, xl, argS, reduceIte, Nat.reduceEqDiff, Nat.reduceAdd, Nat.reduceLT, Nat.reduceLeDiff, A.okCells, A.cells, A.one, splice]
      refine c_fn hC rfl ?_
      simp only [xs, xl, argS, reduceIte, Nat.reduceEqDiff, Nat.reduceAdd, Nat.reduceLT, Nat.reduceLeDiff, A.okCells, A.cells, A.one, splice]
      refine W_cond (t := false) rfl (fun hd => by cases hd) (fun _ => W_skip ?_)
      exact ⟨rfl, U [], Co.keep _ (by simp [x_upd, x_look]), rfl⟩
  rintro _ rfl
  have hB := Hb w h
  have hCb := Hc (blankOf w h) blankV_texts
  cases hz : szOk w h with
  | false =>
    rw [hz] at hB
    generalize blankOf w h = B at hB
    simp only [vwA, Vw.ds, List.map_cons, List.map_nil] at hB
    refine W_seq (W_reg ?_)
    simp only [U, xs, xl, argS, reduceIte, Nat.reduceEqDiff, Nat.reduceAdd, Nat.reduceLT, Nat.reduceLeDiff, A.okCells, A.cells, A.one, splice]
    refine c_fn hB rfl ?_
    simp only [xs, xl, argS, reduceIte, Nat.reduceEqDiff, Nat.reduceAdd, Nat.reduceLT, Nat.reduceLeDiff, A.okCells, A.cells, A.one, splice]
    refine W_seq (W_seq (W_reg ?_))
    simp only [xs, xl, argS, reduceIte, Nat.reduceEqDiff, Nat.reduceAdd, Nat.reduceLT, Nat.reduceLeDiff, A.okCells, A.cells, A.one, splice]
    refine W_cond (t := true) rfl (fun _ => ?_) (fun hd => by cases hd)
    refine W_seq (W_reg ?_)
    simp only [xs, xl, argS, reduceIte, Nat.reduceEqDiff, Nat.reduceAdd, Nat.reduceLT, Nat.reduceLeDiff, A.okCells, A.cells, A.one, splice]
    refine c_fn Ha rfl ?_
    simp only [xs, xl, argS, reduceIte, Nat.reduceEqDiff, Nat.reduceAdd, Nat.reduceLT, Nat.reduceLeDiff, A.okCells, A.cells, A.one, splice]
    refine W_ret (.tmp ?_ rfl)
    simp only [x_upd, reduceIte]
  | true =>
    have hbl : blankOf w h = blankV w h := by rw [blankOf, if_pos hz]
    have hv := blankV_ok hz
    obtain ⟨⟨a1, a2⟩, a3, a4⟩ := szOk_le hz
    have hrl : (blankV w h).rows.length = h.toNat := by simp [blankV]
    have hrg : ∀ k, k < h.toNat → (rwRows (blankV w h).rows).getD k [] = [.sl eGl []] := fun k hk => by
      rw [rwRows_get (by rw [hrl]; exact hk)]
      simp [blankV, glRows]
    have hbv : (blankV w h).vis = true := rfl
    rw [hz, hbl] at hB
    rw [hbl, hv] at hCb
    generalize blankV w h = B at hB hCb hrl hrg hbv
    simp only [vwA, Vw.ds, List.map_cons, List.map_nil] at hB hCb
    refine W_seq (W_reg ?_)
    simp only [U, xs, xl, argS, reduceIte, Nat.reduceEqDiff, Nat.reduceAdd, Nat.reduceLT, Nat.reduceLeDiff, A.okCells, A.cells, A.one, splice]
    refine c_fn hB rfl ?_
    simp only [xs, xl, argS, reduceIte, Nat.reduceEqDiff, Nat.reduceAdd, Nat.reduceLT, Nat.reduceLeDiff, A.okCells, A.cells, A.one, splice]
    refine W_seq (W_seq (W_reg ?_))
    simp only [xs, xl, argS, reduceIte, Nat.reduceEqDiff, Nat.reduceAdd, Nat.reduceLT, Nat.reduceLeDiff, A.okCells, A.cells, A.one, splice]
    refine W_cond (t := false) rfl (fun hd => by cases hd) (fun _ => W_skip ?_)
    simp only [xs, xl, argS, reduceIte, Nat.reduceEqDiff, Nat.reduceAdd, Nat.reduceLT, Nat.reduceLeDiff, A.okCells, A.cells, A.one, splice]
    refine W_seq (W_reg ?_)
    simp only [xs, xl, argS, reduceIte, Nat.reduceEqDiff, Nat.reduceAdd, Nat.reduceLT, Nat.reduceLeDiff, A.okCells, A.cells, A.one, splice]
    refine W_seq (W_seq (W_reg ?_))
    simp only [xs, xl, argS, reduceIte, Nat.reduceEqDiff, Nat.reduceAdd, Nat.reduceLT, Nat.reduceLeDiff, A.okCells, A.cells, A.one, splice]
    refine W_block ?_
    let S : Nat → St := fun i => ⟨look [(8, .ptr 2 1 0 0), (10, .int 0), (11, .int i)], [tmB t, vwB V, vwB B]⟩
    refine W_co (s' := S 0) (Co.keep _ (by simp [x_upd, x_look])) ?_
    refine W_loop (fun m s => ∃ i, i ≤ h.toNat ∧ m = h.toNat - i ∧ s = S i) ⟨0, Nat.zero_le _, rfl, rfl⟩ ?_
    rintro m s ⟨i, hi, rfl, rfl⟩
    refine W_seq (W_seq (W_reg ?_))
    simp only [S, vwB, Vw.ds, xs, xl, argS, reduceIte, Nat.reduceEqDiff, Nat.reduceAdd, Nat.reduceLT, Nat.reduceLeDiff, A.okCells, A.cells, A.one, splice, rwRows_len, hrl]
    refine W_cond rfl (fun hc => W_skip ?_) (fun hc => W_exit ?_)
    · have hlt : i < h.toNat := by simp at hc; omega
      have f1 : IntKind.i64.wrap ((i : Int) + 1) = ((i + 1 : Nat) : Int) := i64_of (by omega)
      have f0 : IntKind.i64.wrap ((0 : Int) + 0) = 0 := by decide
      simp only [xs, xl, argS, reduceIte, Nat.reduceEqDiff, Nat.reduceAdd, Nat.reduceLT, Nat.reduceLeDiff, A.okCells, A.cells, A.one, splice]
      refine W_seq (W_block (W_reg ?_))
      simp only [xs, xl, argS, reduceIte, Nat.reduceEqDiff, Nat.reduceAdd, Nat.reduceLT, Nat.reduceLeDiff, A.okCells, A.cells, A.one, splice, hrg i hlt, rwRows_len, hrl, Int.natCast_zero, f0]
      refine ⟨by omega, by omega, ?_⟩
      refine W_reg ?_
      simp only [xs, xl, argS, reduceIte, Nat.reduceEqDiff, Nat.reduceAdd, Nat.reduceLT, Nat.reduceLeDiff, A.okCells, A.cells, A.one, splice, f1]
      refine ⟨h.toNat - (i + 1), S (i + 1), by omega, Co.keep _ ?_, i + 1, hlt, rfl, rfl⟩
      simp [x_upd, x_look]
    · simp only [xs, xl, argS, reduceIte, Nat.reduceEqDiff, Nat.reduceAdd, Nat.reduceLT, Nat.reduceLeDiff, A.okCells, A.cells, A.one, splice]
      have q0 : decide ((0 : Int) = 0) = true := rfl
      refine W_sreg fun K hK => ?_
      refine run_take 4 fun K1 hK1 => ?_
      simp only [xs, xl, argS, reduceIte, Nat.reduceEqDiff, Nat.reduceAdd, Nat.reduceLT, Nat.reduceLeDiff, A.okCells, A.cells, A.one, splice]
      refine c_fn hCb rfl ?_
      simp only [xs, xl, argS, reduceIte, Nat.reduceEqDiff, Nat.reduceAdd, Nat.reduceLT, Nat.reduceLeDiff, A.okCells, A.cells, A.one, splice, q0]
      refine hK1 _ ?_
      simp only [xs, xl, argS, reduceIte, Nat.reduceEqDiff, Nat.reduceAdd, Nat.reduceLT, Nat.reduceLeDiff, A.okCells, A.cells, A.one, splice, q0, hbv]
      refine c_fn Ha rfl ?_
      simp only [xs, xl, argS, reduceIte, Nat.reduceEqDiff, Nat.reduceAdd, Nat.reduceLT, Nat.reduceLeDiff, A.okCells, A.cells, A.one, splice]
      refine hK _ ?_
      refine W_ret (.tmp ?_ rfl)
      simp only [x_upd, reduceIte]

end Go.Proofs.YtmagahmklndcgaaDoor.Nx

