/-
  For any grid and any four numbers of eight bits the law narratorlaw08.GridSizes returns true: resizing to the same size or to a larger size and back restores the grid, and resizing to a smaller size in two steps is resizing at once. Conditions: those of the card alone (the tables of unicode/utf8 hold at the start what the library lays).
-/
import Derived.Test.YthpbagpnnokalaaDoorCards
import Derived.Test.YthpbagpnnokalaaDoorTie
import Derived.Test.YthpbagpnnokalaaDoorFns
import Derived.Lib.LaidTab
namespace Go.Proofs.YthpbagpnnokalaaDoor
set_option linter.unusedSimpArgs false
set_option linter.unusedVariables false
set_option linter.unnecessarySimpa false
open Nx
theorem len5 {α : Type} {l : List α} (h : l.length = 5) : ∃ d0 d1 d2 d3 d4, l = [d0, d1, d2, d3, d4] := by
  rcases l with _ | ⟨d0, _ | ⟨d1, _ | ⟨d2, _ | ⟨d3, _ | ⟨d4, _ | _⟩⟩⟩⟩⟩ <;> simp at h
  exact ⟨d0, d1, d2, d3, d4, rfl⟩
theorem laidOut : laidOutB Tryd.prog = true := by kernel_rfl
theorem law_GridSizes : ∀ xss, WTAll [tGrid, .int .u8, .int .u8, .int .u8, .int .u8] xss → FnP gam Tryd.prog 9 (argsA [tGrid, .int .u8, .int .u8, .int .u8, .int .u8] xss) (.bool true) := by
  intro xss h
  match xss, h with
  | [x0, x1, x2, x3, x4], h =>
    obtain ⟨h0, h1, h2, h3, h4, _⟩ := h
    obtain ⟨g, rfl⟩ := grid_of h0
    obtain ⟨_, rfl, hm⟩ := h1
    obtain ⟨u, rfl, hu⟩ := natOf hm
    obtain ⟨_, rfl, hm⟩ := h2
    obtain ⟨v, rfl, hv⟩ := natOf hm
    obtain ⟨_, rfl, hm⟩ := h3
    obtain ⟨p, rfl, hp⟩ := natOf hm
    obtain ⟨_, rfl, hm⟩ := h4
    obtain ⟨q, rfl, hq⟩ := natOf hm
    exact gridSizesLaw_fn is_law08_GridSizes (by decide) k_right awake_fn k_resize k_same g u v p q hu hv hp hq
  | [], h => exact h.elim
  | [_], h => exact h.2.elim
  | [_, _], h => exact h.2.2.elim
  | [_, _, _], h => exact h.2.2.2.elim
  | [_, _, _, _], h => exact h.2.2.2.2.elim
  | _ :: _ :: _ :: _ :: _ :: _ :: _, h => exact h.2.2.2.2.2.elim
end Go.Proofs.YthpbagpnnokalaaDoor
namespace Go.Proofs.YthpbagpnnokalaaDoor.gridSizes
open Nx Go.ChangeShapes Go.WideShapes Go.ChangeAt Go.RowKit

theorem own : ownKnob Tryd.prog.godebug = none := by kernel_rfl

set_option maxRecDepth 100000 in
/-- What the walks give, for every argument and every world that holds the tables. -/
theorem contract (H : Type) (enc : TypeId × Value → H) (W : World) (base : Nat) (args : Array Value) (ds gs : List (DataW H)) (before : List MemPlace)
    (hval : ∀ (j : Nat) t v, Tryd.f9.params[j]? = some t → args[j]? = some v → Value.okWide Tryd.prog W .any base t v)
    (hW : DataW.Whole enc Tryd.prog Tryd.f9.params.toList Rows.gridSizesSpec.vars false W args.toList ds gs before)
    (hw : (DataW.weightsEach Tryd.prog Tryd.f9.params.toList ds).all (· ≤ reachBytes) = true) (hL : laidMet Tryd.prog Rows.gridSizesRow.laid W) :
    Calls Tryd.prog 9 args W fun e W' => ∃ v, e = .returned v ∧ Rows.gridSizesSpec.post enc Tryd.prog Tryd.f9 false true false false W args v W' :=
  law_contract (tb := 4) (tys := [tGrid, .int .u8, .int .u8, .int .u8, .int .u8]) (Γ := gam) (laid := Rows.gridSizesRow.laid) (by kernel_rfl) Tryd.underlying4 rfl laidOut (of_decide_eq_true (by kernel_rfl)) (fun ds hd => by
    obtain ⟨d0, d1, d2, d3, d4, rfl⟩ := len5 (hd.trans (show Tryd.f9.params.toList.length = 5 by kernel_rfl))
    rfl) (by kernel_rfl) gam_is law_GridSizes hval hW hw hL

/-- A world for the witness: the tables hold what their initialisers lay. -/
noncomputable def laidWorld (os : Os) : World :=
  { World.holding Tryd.prog os ⟨#[], #[], []⟩ with heap := (((World.holding Tryd.prog os ⟨#[], #[], []⟩).heap.modify 0 fun
      | .cells _ t frozen => .cells ((flat Rows.laid_unicode_utf8_first).toArray) t frozen
      | o => o).modify 1 fun
      | .cells _ t frozen => .cells ((flat (H := Unit) Rows.laid_unicode_utf8_acceptRanges).toArray) t frozen
      | o => o) }
theorem laid_met (os : Os) : laidMet Tryd.prog Rows.gridSizesRow.laid ((laidWorld os).forCall (fun _ _ => 0) ⟨#[], #[.agg #[.int .i64 0, .int .i64 0, .slice none 0 0], .int .u8 0, .int .u8 0, .int .u8 0, .int .u8 0], []⟩).memory :=
  laidMet_of_run' 8 (by kernel_rfl) (by kernel_rfl)
theorem reads (os : Os) {H : Type} (enc : TypeId × Value → H) : ∃ places, DataW.whole enc Tryd.prog ((laidWorld os).forCall (fun _ _ => 0) ⟨#[], #[.agg #[.int .i64 0, .int .i64 0, .slice none 0 0], .int .u8 0, .int .u8 0, .int .u8 0, .int .u8 0], []⟩).memory Tryd.f9.params.toList Rows.gridSizesSpec.vars false (#[.agg #[.int .i64 0, .int .i64 0, .slice none 0 0], .int .u8 0, .int .u8 0, .int .u8 0, .int .u8 0] : Array Value).toList 12 = some ([.agg [.lit (.int .i64 0), .lit (.int .i64 0), .nil], .lit (.int .u8 0), .lit (.int .u8 0), .lit (.int .u8 0), .lit (.int .u8 0)], [], places) :=
  ⟨[], by kernel_rfl⟩

set_option maxRecDepth 100000 in
theorem lifted (os : Os) (started : os.Started) (H : Type) (enc : TypeId × Value → H) (F : Stop.Interp) :
    ReturnsInHanded {} Tryd.checked os 9 .any ((OpenSpec.ofChange Rows.gridSizesSpec).preRow enc Tryd.prog Tryd.f9 Rows.gridSizesRow.domain false Rows.gridSizesRow.laid) (((OpenSpec.ofChange Rows.gridSizesSpec).at F).post enc Tryd.prog Tryd.f9 false true false false) := by
  obtain ⟨places, hx⟩ := reads os enc
  refine returnsInHanded_of_row (C := Tryd.checked) (s := OpenSpec.ofChange Rows.gridSizesSpec) own started (by kernel_rfl) Tryd.func9
    (witness_row_at (enc := enc) (C := Tryd.checked) false (laidWorld os) #[.agg #[.int .i64 0, .int .i64 0, .slice none 0 0], .int .u8 0, .int .u8 0, .int .u8 0, .int .u8 0] rfl (by kernel_rfl) (by kernel_rfl) (by kernel_rfl)
      (OpenSpec.preRow_of_cond 12 hx (by kernel_rfl) (fun k hk => by cases hk) (by kernel_rfl) (laid_met os))) ?_
  intro W base args ds gs before hval hW _ _ hw hL _ _
  refine contract H enc W base args ds gs before hval hW ?_ hL
  have hV := hW
  obtain ⟨p, q, hA, hV, -, -, -⟩ := hV
  obtain ⟨rfl, -⟩ := trodVars_none hV
  have e1 : (OpenSpec.ofChange Rows.gridSizesSpec).bare.plain.varTypes Tryd.checked.prog = [] := rfl
  rw [e1, List.append_nil, List.append_nil] at hw
  exact hw

theorem said : Rows.GridSizesSaid :=
  OpenClaim.holds_of_cond 9 Tryd.f9 rfl rfl rfl rfl rfl rfl rfl ⟨rfl, rfl, rfl, rfl, rfl⟩ rfl rfl rfl rfl rfl (by kernel_rfl) Tryd.func9 (by kernel_rfl)
    (of_decide_eq_true (by kernel_rfl)) (by unfold Func.isWrapper; first | (rw [if_pos (by decide +kernel)]; kernel_rfl) | (rw [if_neg (by decide +kernel)]; exact ⟨rfl, rfl⟩))
    (fun os started H enc _ F => by rw [OpenClaim.pre_eq_preRow]; exact lifted os started H enc F)

theorem plain (f : FuncId) (fn : Func) (hf : Tryd.pinned.checked.prog.funcNamed Rows.gridSizesRow.func = some f) (hfn : Tryd.pinned.checked.prog.funcs[f]? = some fn) :
    false = Tryd.pinned.checked.prog.looks [] ∧ ∀ (j : Nat) t, fn.params[j]? = some t → Tryd.pinned.checked.prog.wantsStandIn t = false := by
  obtain rfl : f = 9 := Option.some.inj ((show Tryd.prog.funcNamed Rows.gridSizesRow.func = some 9 by kernel_rfl).symm.trans hf) |>.symm
  obtain rfl : fn = Tryd.f9 := (Option.some.inj (Tryd.func9.symm.trans hfn)).symm
  refine ⟨by kernel_rfl, fun j t ht => ?_⟩
  exact of_decide_eq_true (List.all_eq_true.1 (show (Tryd.f9.params.toList.all fun t => decide (Tryd.pinned.checked.prog.wantsStandIn t = false)) = true by kernel_rfl) t (List.mem_iff_getElem?.2 ⟨j, by simpa using ht⟩))

theorem card : Rows.GridSizesCardSaid :=
  Claim7.holds_tied_plain_at .later [] _ _ _ _ said (fun _ h => by cases h) (by kernel_rfl) (fun _ h => by cases h) gridSizes_row_tie rfl ⟨rfl, rfl⟩ (by kernel_rfl) rfl plain (by kernel_rfl)
end Go.Proofs.YthpbagpnnokalaaDoor.gridSizes
