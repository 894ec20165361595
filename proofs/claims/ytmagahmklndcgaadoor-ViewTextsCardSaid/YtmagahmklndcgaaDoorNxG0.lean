/- Sizes and grids. -/
import Derived.Test.YtmagahmklndcgaaDoorNxB0
namespace Go.Proofs.YtmagahmklndcgaaDoor.Nx
set_option linter.unusedSimpArgs false
set_option linter.unusedVariables false
set_option linter.unnecessarySimpa false
open Go

def szOk (w h : Int) : Bool := ((decide (1 ≤ w) && decide (w ≤ 132)) && decide (1 ≤ h)) && decide (h ≤ 60)

theorem szOk_le {w h : Int} (hs : szOk w h = true) : (1 ≤ w ∧ w ≤ 132) ∧ 1 ≤ h ∧ h ≤ 60 := by
  simp only [szOk, Bool.and_eq_true, decide_eq_true_eq] at hs
  omega


abbrev eGd : Elt := ⟨3, 40⟩
structure Gd where
  w : Int
  h : Int
  rows : List (List Ce)
def Gd.ds (g : Gd) : List D := [.sc (.int .i64 g.w), .sc (.int .i64 g.h), .sl eRw (crRows g.rows)]
def gdR (g : Gd) : List A := [.int g.w, .int g.h, .d (.sl eRw (crRows g.rows))]
def gdA (g : Gd) : A := .agg (gdR g)

deriving instance DecidableEq for Gd
def zeroGd : Gd := ⟨0, 0, []⟩
def gdE (x : Gd × Int) : A := .tup [gdA x.1, .int x.2]

abbrev gB (g : Gd) : HB := .cells eGd [gdR g]
abbrev zgB : HB := .cells eGd [[.int 0, .int 0, .nil]]
abbrev oB (w h : Int) (x : A) : HB := .cells eGd [[.int w, .int h, x]]
abbrev iB (n : Int) : HB := .cells ⟨1, 8⟩ [[.int n]]
abbrev crBk (l : List (List Ce)) : HB := .cells eRw ((crRows l).map fun r => r.map A.d)

theorem frz_gd {h : Heap} {w hh e : Int} {x : A} {L : List (List Ce)} (hx : FrzA 0 h x (.d (.sl eRw (crRows L)))) : FrzA 0 h (.tup [.agg [.int w, .int hh, x], .int e]) (gdE (⟨w, hh, L⟩, e)) := by
  refine .tup rfl fun j y hj => ?_
  rcases j with _ | _ | j
  · cases hj
    refine .agg rfl fun j y hj => ?_
    rcases j with _ | _ | _ | j
    · cases hj; exact .same rfl
    · cases hj; exact .same rfl
    · cases hj; exact hx
    · simp [gdR] at hj
  · cases hj; exact .same rfl
  · simp at hj

end Go.Proofs.YtmagahmklndcgaaDoor.Nx

