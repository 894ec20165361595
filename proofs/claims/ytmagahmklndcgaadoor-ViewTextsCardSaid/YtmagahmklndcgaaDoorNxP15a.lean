/- Layer 15: small functions. -/
import Derived.Test.YtmagahmklndcgaaDoorNxB0
namespace Go.Proofs.YtmagahmklndcgaaDoor.Nx
set_option linter.unusedSimpArgs false
set_option linter.unusedVariables false
set_option linter.unnecessarySimpa false
open Go

variable {P : Program} {N : Nat} {Γ : Tabs}

/-! ### Data -/
structure Gl where
  text : ByteArray
  wide : Bool
  style : Int
abbrev eGl : Elt := ⟨3, 32⟩
def Gl.row (g : Gl) : List D := [.sc (.string g.text), .sc (.bool g.wide), .sc (.int .i64 g.style)]
def glRows (l : List Gl) : List (List D) := l.map Gl.row
theorem glRows_len {l : List Gl} : (glRows l).length = l.length := by simp [glRows]
theorem glRows_get {l : List Gl} {i : Nat} (hi : i < l.length) : (glRows l).getD i [] = l[i].row := by
  rw [List.getD_eq_getElem?_getD, glRows, List.getElem?_map, List.getElem?_eq_getElem hi]; rfl

/-! ### attr.Style -/
def styleOf (flags : Int) : Int := if andI .i64 flags 64 ≠ 0 then 3 else if andI .i64 flags 32 ≠ 0 then 2 else if andI .i64 flags 29 ≠ 0 then 1 else 0

theorem style_fn {f : FuncId} (H : FnIs P f N [.t 2] x_attr_Style) (hN : 1 ≤ N) (fore back flags : Int) : FnP Γ P f [.agg [.int fore, .int back, .int flags]] (.int (styleOf flags)) := by
  refine .of_W H (by simpa using hN) ?_
  unfold x_attr_Style
  refine W_seq (W_reg ?_)
  simp only [xs, xl, argS, reduceIte, Nat.reduceEqDiff, Nat.reduceAdd, Nat.reduceLT, Nat.reduceLeDiff, A.okCells, A.cells, A.one, splice]
  refine W_seq (W_block (W_seq (W_reg ?_)))
  simp only [xs, xl, argS, reduceIte, Nat.reduceEqDiff, Nat.reduceAdd, Nat.reduceLT, Nat.reduceLeDiff, A.okCells, A.cells, A.one, splice]
  refine W_cond (t := decide (andI .i64 flags 64 ≠ 0)) (by simp [ev, x_upd]) (fun hc => ?_) (fun hc => ?_)
  · refine W_seq (W_reg ?_)
    simp only [xs, xl, argS, reduceIte, Nat.reduceEqDiff, Nat.reduceAdd, Nat.reduceLT, Nat.reduceLeDiff, A.okCells, A.cells, A.one, splice]
    refine W_ret ⟨.inr rfl, ?_⟩
    have hc : andI .i64 flags 64 ≠ 0 := by simpa using hc
    simp [readRs, readR, single, x_upd, styleOf, hc]
    exact .same rfl
  · have hc : andI .i64 flags 64 = 0 := by simpa using hc
    refine W_seq (W_reg ?_)
    simp only [xs, xl, argS, reduceIte, Nat.reduceEqDiff, Nat.reduceAdd, Nat.reduceLT, Nat.reduceLeDiff, A.okCells, A.cells, A.one, splice]
    refine W_cond (t := decide (andI .i64 flags 32 ≠ 0)) (by simp [ev, x_upd]) (fun hc2 => ?_) (fun hc2 => ?_)
    · refine W_seq (W_reg ?_)
      simp only [xs, xl, argS, reduceIte, Nat.reduceEqDiff, Nat.reduceAdd, Nat.reduceLT, Nat.reduceLeDiff, A.okCells, A.cells, A.one, splice]
      refine W_ret ⟨.inr rfl, ?_⟩
      have hc2 : andI .i64 flags 32 ≠ 0 := by simpa using hc2
      simp [readRs, readR, single, x_upd, styleOf, hc, hc2]
      exact .same rfl
    · have hc2 : andI .i64 flags 32 = 0 := by simpa using hc2
      refine W_seq (W_reg ?_)
      simp only [xs, xl, argS, reduceIte, Nat.reduceEqDiff, Nat.reduceAdd, Nat.reduceLT, Nat.reduceLeDiff, A.okCells, A.cells, A.one, splice]
      refine W_cond (t := decide (andI .i64 flags 29 ≠ 0)) (by simp [ev, x_upd]) (fun hc3 => ?_) (fun hc3 => ?_)
      · refine W_seq (W_reg ?_)
        simp only [xs, xl, argS, reduceIte, Nat.reduceEqDiff, Nat.reduceAdd, Nat.reduceLT, Nat.reduceLeDiff, A.okCells, A.cells, A.one, splice]
        refine W_ret ⟨.inr rfl, ?_⟩
        have hc3 : andI .i64 flags 29 ≠ 0 := by simpa using hc3
        simp [readRs, readR, single, x_upd, styleOf, hc, hc2, hc3]
        exact .same rfl
      · have hc3 : andI .i64 flags 29 = 0 := by simpa using hc3
        refine W_skip ?_
        simp only [xs, xl, argS, reduceIte, Nat.reduceEqDiff, Nat.reduceAdd, Nat.reduceLT, Nat.reduceLeDiff, A.okCells, A.cells, A.one, splice]
        refine W_seq (W_reg ?_)
        simp only [xs, xl, argS, reduceIte, Nat.reduceEqDiff, Nat.reduceAdd, Nat.reduceLT, Nat.reduceLeDiff, A.okCells, A.cells, A.one, splice]
        refine W_ret ⟨.inr rfl, ?_⟩
        simp [readRs, readR, single, x_upd, styleOf, hc, hc2, hc3]
        exact .same rfl

/-! ### Returns -/
/-! ### view.blank, slices.Clone, ref15.SameRow, ref15.GreatRow, view.Trim -/
def glA (g : Gl) : A := .agg (g.row.map .d)
def spaceGl : Gl := ⟨⟨#[32]⟩, false, 0⟩

theorem blank_fn {f : FuncId} (H : FnIs P f N [.c 0 3 true] x_view_blank) : FnP Γ P f [] (glA spaceGl) := by
  refine .of_W H (by simp) ?_
  unfold x_view_blank
  refine W_seq (W_reg ?_)
  simp only [xs, xl, argS, reduceIte, Nat.reduceEqDiff, Nat.reduceAdd, Nat.reduceLT, Nat.reduceLeDiff, A.okCells, A.cells, A.one, splice]
  refine W_seq (W_reg ?_)
  simp only [xs, xl, argS, reduceIte, Nat.reduceEqDiff, Nat.reduceAdd, Nat.reduceLT, Nat.reduceLeDiff, A.okCells, A.cells, A.one, splice]
  refine W_ret ⟨.inr rfl, ?_⟩
  simp only [readRs, readR, x_upd, xs, xl, argS, reduceIte, Nat.reduceEqDiff, Nat.reduceAdd, Nat.reduceLT, Nat.reduceLeDiff, A.okCells, A.cells, A.one, splice, loadsTo, if_true]
  exact .same rfl

theorem clone_fn {f : FuncId} (H : FnIs P f N [.t 2] x_slices_Clone_675) (hN : 1 ≤ N) (rows : List (List D)) : FnP Γ P f [.d (.sl eGl rows)] (.d (.sl eGl rows)) := by
  refine .of_W H (by simpa using hN) (W_sl 0 rfl fun ⟨hm, hroom, _⟩ => ?_)
  unfold x_slices_Clone_675
  refine W_nil 0 rfl (fun h0 => ?_) ?_
  · subst h0
    refine W_seq (W_reg ?_)
    simp only [xs, xl, argS, reduceIte, Nat.reduceEqDiff, Nat.reduceAdd, Nat.reduceLT, Nat.reduceLeDiff, A.okCells, A.cells, A.one, splice]
    refine W_seq (W_seq (W_reg ?_))
    simp only [xs, xl, argS, reduceIte, Nat.reduceEqDiff, Nat.reduceAdd, Nat.reduceLT, Nat.reduceLeDiff, A.okCells, A.cells, A.one, splice, x_eqnil, EqNil]
    refine W_cond (t := true) (by simp [ev, x_upd]) (fun _ => ?_) (fun h => by cases h)
    refine W_seq (W_reg ?_)
    simp only [xs, xl, argS, reduceIte, Nat.reduceEqDiff, Nat.reduceAdd, Nat.reduceLT, Nat.reduceLeDiff, A.okCells, A.cells, A.one, splice]
    refine W_ret (.frz ?_)
    simp only [xs, xl, argS, reduceIte, Nat.reduceEqDiff, Nat.reduceAdd, Nat.reduceLT, Nat.reduceLeDiff, A.okCells, A.cells, A.one, splice]
    exact .d (.nil _)
  · refine W_seq (W_reg ?_)
    simp only [xs, xl, argS, reduceIte, Nat.reduceEqDiff, Nat.reduceAdd, Nat.reduceLT, Nat.reduceLeDiff, A.okCells, A.cells, A.one, splice]
    refine W_seq (W_seq (W_reg ?_))
    simp only [xs, xl, argS, reduceIte, Nat.reduceEqDiff, Nat.reduceAdd, Nat.reduceLT, Nat.reduceLeDiff, A.okCells, A.cells, A.one, splice, x_eqnil, EqNil]
    refine W_cond (t := false) (by simp [ev, x_upd]) (fun h => by cases h) (fun _ => W_skip ?_)
    simp only [xs, xl, argS, reduceIte, Nat.reduceEqDiff, Nat.reduceAdd, Nat.reduceLT, Nat.reduceLeDiff, A.okCells, A.cells, A.one, splice]
    refine W_seq (W_reg ?_)
    simp only [xs, xl, argS, reduceIte, Nat.reduceEqDiff, Nat.reduceAdd, Nat.reduceLT, Nat.reduceLeDiff, A.okCells, A.cells, A.one, splice]
    refine ⟨hroom, hm, W_ret (.frz ?_)⟩
    simp only [xs, xl, argS, reduceIte, Nat.reduceEqDiff, Nat.reduceAdd, Nat.reduceLT, Nat.reduceLeDiff, A.okCells, A.cells, A.one, splice]
    have := frz_all (id := 0) (full := true) (e := eGl) (h := [HB.cells eGl (rows.map fun r => r.map .d)]) (rows := rows) rfl
    exact this

end Go.Proofs.YtmagahmklndcgaaDoor.Nx
