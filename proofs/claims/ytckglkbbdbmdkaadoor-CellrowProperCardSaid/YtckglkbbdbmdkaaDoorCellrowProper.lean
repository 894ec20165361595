/-
  For any cells, column, number, text and rendition the law narratorlaw07.CellrowProper returns true: all results are proper rows. Conditions: those of the card alone (the tables of unicode/utf8 hold at the start what the library lays).
-/
import Derived.Test.YtckglkbbdbmdkaaDoorCards
import Derived.Test.YtckglkbbdbmdkaaDoorTie
import Derived.Test.YtckglkbbdbmdkaaDoorFns
import Derived.Lib.LaidTab
namespace Go.Proofs.YtckglkbbdbmdkaaDoor
set_option linter.unusedSimpArgs false
set_option linter.unusedVariables false
set_option linter.unnecessarySimpa false
open Nx
theorem len5 {α : Type} {l : List α} (h : l.length = 5) : ∃ d0 d1 d2 d3 d4, l = [d0, d1, d2, d3, d4] := by
  rcases l with _ | ⟨d0, _ | ⟨d1, _ | ⟨d2, _ | ⟨d3, _ | ⟨d4, _ | _⟩⟩⟩⟩⟩ <;> simp at h
  exact ⟨d0, d1, d2, d3, d4, rfl⟩
theorem laidOut : laidOutB Tryd.prog = true := by kernel_rfl
theorem law_CellrowProper : ∀ xss, WTAll [tCells, .int .i64, .int .i64, .str, tAttr] xss → FnP gam Tryd.prog 11 (argsA [tCells, .int .i64, .int .i64, .str, tAttr] xss) (.bool true) := by
  intro xss h
  match xss, h with
  | [x0, x1, x2, x3, x4], h =>
    obtain ⟨h0, h1, h2, h3, h4, _⟩ := h
    obtain ⟨l, rfl⟩ := cells_of h0
    obtain ⟨n, rfl, _⟩ := h1
    obtain ⟨m, rfl, _⟩ := h2
    obtain ⟨s, rfl, _⟩ := h3
    obtain ⟨a1, a2, a3, rfl⟩ := attr_of h4
    exact cellProperLaw_fn is_law07_CellrowProper (by decide) k_great k_row awake_fn k_put k_insert k_delete k_erase (fun l x hx => cproper1_fn is_law07_CellrowProper_1 (by decide) k_row l x hx) k_fit l n m s a1 a2 a3
  | [], h => exact h.elim
  | [_], h => exact h.2.elim
  | [_, _], h => exact h.2.2.elim
  | [_, _, _], h => exact h.2.2.2.elim
  | [_, _, _, _], h => exact h.2.2.2.2.elim
  | _ :: _ :: _ :: _ :: _ :: _ :: _, h => exact h.2.2.2.2.2.elim
end Go.Proofs.YtckglkbbdbmdkaaDoor
namespace Go.Proofs.YtckglkbbdbmdkaaDoor.cellrowProper
open Nx Go.ChangeShapes Go.WideShapes Go.ChangeAt Go.RowKit

theorem own : ownKnob Tryd.prog.godebug = none := by kernel_rfl

set_option maxRecDepth 100000 in
/-- What the walks give, for every argument and every world that holds the tables. -/
theorem contract (H : Type) (enc : TypeId × Value → H) (W : World) (base : Nat) (args : Array Value) (ds gs : List (DataW H)) (before : List MemPlace)
    (hval : ∀ (j : Nat) t v, Tryd.f11.params[j]? = some t → args[j]? = some v → Value.okWide Tryd.prog W .any base t v)
    (hW : DataW.Whole enc Tryd.prog Tryd.f11.params.toList Rows.cellrowProperSpec.vars false W args.toList ds gs before)
    (hw : (DataW.weightsEach Tryd.prog Tryd.f11.params.toList ds).all (· ≤ reachBytes) = true) (hL : laidMet Tryd.prog Rows.cellrowProperRow.laid W) :
    Calls Tryd.prog 11 args W fun e W' => ∃ v, e = .returned v ∧ Rows.cellrowProperSpec.post enc Tryd.prog Tryd.f11 false true false false W args v W' :=
  law_contract (tb := 4) (tys := [tCells, .int .i64, .int .i64, .str, tAttr]) (Γ := gam) (laid := Rows.cellrowProperRow.laid) (by kernel_rfl) Tryd.underlying4 rfl laidOut (of_decide_eq_true (by kernel_rfl)) (fun ds hd => by
    obtain ⟨d0, d1, d2, d3, d4, rfl⟩ := len5 (hd.trans (show Tryd.f11.params.toList.length = 5 by kernel_rfl))
    rfl) (by kernel_rfl) gam_is law_CellrowProper hval hW hw hL

/-- A world for the witness: the tables hold what their initialisers lay. -/
noncomputable def laidWorld (os : Os) : World :=
  { World.holding Tryd.prog os ⟨#[], #[], []⟩ with heap := (((World.holding Tryd.prog os ⟨#[], #[], []⟩).heap.modify 0 fun
      | .cells _ t frozen => .cells ((flat Rows.laid_unicode_utf8_first).toArray) t frozen
      | o => o).modify 1 fun
      | .cells _ t frozen => .cells ((flat (H := Unit) Rows.laid_unicode_utf8_acceptRanges).toArray) t frozen
      | o => o) }
theorem laid_met (os : Os) : laidMet Tryd.prog Rows.cellrowProperRow.laid ((laidWorld os).forCall (fun _ _ => 0) ⟨#[], #[.slice none 0 0, .int .i64 0, .int .i64 0, .string ⟨#[]⟩, .agg #[.int .i64 0, .int .i64 0, .int .i64 0]], []⟩).memory :=
  laidMet_of_run' 8 (by kernel_rfl) (by kernel_rfl)
theorem reads (os : Os) {H : Type} (enc : TypeId × Value → H) : ∃ places, DataW.whole enc Tryd.prog ((laidWorld os).forCall (fun _ _ => 0) ⟨#[], #[.slice none 0 0, .int .i64 0, .int .i64 0, .string ⟨#[]⟩, .agg #[.int .i64 0, .int .i64 0, .int .i64 0]], []⟩).memory Tryd.f11.params.toList Rows.cellrowProperSpec.vars false (#[.slice none 0 0, .int .i64 0, .int .i64 0, .string ⟨#[]⟩, .agg #[.int .i64 0, .int .i64 0, .int .i64 0]] : Array Value).toList 12 = some ([.nil, .lit (.int .i64 0), .lit (.int .i64 0), .lit (.string []), .agg [.lit (.int .i64 0), .lit (.int .i64 0), .lit (.int .i64 0)]], [], places) :=
  ⟨[], by kernel_rfl⟩

set_option maxRecDepth 100000 in
theorem lifted (os : Os) (started : os.Started) (H : Type) (enc : TypeId × Value → H) (F : Stop.Interp) :
    ReturnsInHanded {} Tryd.checked os 11 .any ((OpenSpec.ofChange Rows.cellrowProperSpec).preRow enc Tryd.prog Tryd.f11 Rows.cellrowProperRow.domain false Rows.cellrowProperRow.laid) (((OpenSpec.ofChange Rows.cellrowProperSpec).at F).post enc Tryd.prog Tryd.f11 false true false false) := by
  obtain ⟨places, hx⟩ := reads os enc
  refine returnsInHanded_of_row (C := Tryd.checked) (s := OpenSpec.ofChange Rows.cellrowProperSpec) own started (by kernel_rfl) Tryd.func11
    (witness_row_at (enc := enc) (C := Tryd.checked) false (laidWorld os) #[.slice none 0 0, .int .i64 0, .int .i64 0, .string ⟨#[]⟩, .agg #[.int .i64 0, .int .i64 0, .int .i64 0]] rfl (by kernel_rfl) (by kernel_rfl) (by kernel_rfl)
      (OpenSpec.preRow_of_cond 12 hx (by kernel_rfl) (fun k hk => by cases hk) (by kernel_rfl) (laid_met os))) ?_
  intro W base args ds gs before hval hW _ _ hw hL _ _
  refine contract H enc W base args ds gs before hval hW ?_ hL
  have hV := hW
  obtain ⟨p, q, hA, hV, -, -, -⟩ := hV
  obtain ⟨rfl, -⟩ := trodVars_none hV
  have e1 : (OpenSpec.ofChange Rows.cellrowProperSpec).bare.plain.varTypes Tryd.checked.prog = [] := rfl
  rw [e1, List.append_nil, List.append_nil] at hw
  exact hw

theorem said : Rows.CellrowProperSaid :=
  OpenClaim.holds_of_cond 11 Tryd.f11 rfl rfl rfl rfl rfl rfl rfl ⟨rfl, rfl, rfl, rfl, rfl⟩ rfl rfl rfl rfl rfl (by kernel_rfl) Tryd.func11 (by kernel_rfl)
    (of_decide_eq_true (by kernel_rfl)) (by unfold Func.isWrapper; first | (rw [if_pos (by decide +kernel)]; kernel_rfl) | (rw [if_neg (by decide +kernel)]; exact ⟨rfl, rfl⟩))
    (fun os started H enc _ F => by rw [OpenClaim.pre_eq_preRow]; exact lifted os started H enc F)

theorem plain (f : FuncId) (fn : Func) (hf : Tryd.pinned.checked.prog.funcNamed Rows.cellrowProperRow.func = some f) (hfn : Tryd.pinned.checked.prog.funcs[f]? = some fn) :
    false = Tryd.pinned.checked.prog.looks [] ∧ ∀ (j : Nat) t, fn.params[j]? = some t → Tryd.pinned.checked.prog.wantsStandIn t = false := by
  obtain rfl : f = 11 := Option.some.inj ((show Tryd.prog.funcNamed Rows.cellrowProperRow.func = some 11 by kernel_rfl).symm.trans hf) |>.symm
  obtain rfl : fn = Tryd.f11 := (Option.some.inj (Tryd.func11.symm.trans hfn)).symm
  refine ⟨by kernel_rfl, fun j t ht => ?_⟩
  exact of_decide_eq_true (List.all_eq_true.1 (show (Tryd.f11.params.toList.all fun t => decide (Tryd.pinned.checked.prog.wantsStandIn t = false)) = true by kernel_rfl) t (List.mem_iff_getElem?.2 ⟨j, by simpa using ht⟩))

theorem card : Rows.CellrowProperCardSaid :=
  Claim7.holds_tied_plain_at .later [] _ _ _ _ said (fun _ h => by cases h) (by kernel_rfl) (fun _ h => by cases h) cellrowProper_row_tie rfl ⟨rfl, rfl⟩ (by kernel_rfl) rfl plain (by kernel_rfl)
end Go.Proofs.YtckglkbbdbmdkaaDoor.cellrowProper
