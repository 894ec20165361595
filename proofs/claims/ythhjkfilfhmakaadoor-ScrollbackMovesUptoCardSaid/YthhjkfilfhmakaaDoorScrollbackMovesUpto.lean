/-
  For any rows and any grid of bulk at most 1048576 the law narratorlaw12.ScrollbackMoves returns true: scrolling back moves the window row by row. Conditions: those of the card alone (the tables of unicode/utf8 hold at the start what the library lays).
-/
import Derived.Test.YthhjkfilfhmakaaDoorCards
import Derived.Test.YthhjkfilfhmakaaDoorTie
import Derived.Test.YthhjkfilfhmakaaDoorFns
import Derived.Lib.LaidTab
set_option linter.unusedSimpArgs false
set_option linter.unusedVariables false
set_option linter.unnecessarySimpa false
open List renaming append_nil → zP
namespace Go.Proofs.YthhjkfilfhmakaaDoor
open Nx
theorem len2 {α:Type} {l:List α} (h:l.length=2):∃ d0 d1,l=[d0,d1]:=by
  rcases l with _ | ⟨d0,_ | ⟨d1,_ | _⟩⟩<;>simp at h
  exact ⟨d0,d1,rfl⟩
theorem laidOut:laidOutB Tryd.prog=true:=by kernel_rfl
theorem law_ScrollbackMovesUpto:∀ xss,WTAllB 1048576 [tRows,tGrid] xss→FnP gam Tryd.prog 4 (argsA [tRows,tGrid] xss) (.bool true):=by
  intro xss h
  match xss,h with
  | [x0,x1],h =>
    obtain ⟨h0,h1,_⟩:=h
    obtain ⟨_,rfl,hr⟩:=h0
    obtain ⟨b,rfl,hb⟩:=crows_ofB hr
    obtain ⟨g,rfl⟩:=grid_ofB h1
    exact movesLaw_fn is_law12_ScrollbackMoves (by decide) b g (proper12_fn is_law12_proper (by decide) b (fun r hr=>kL_row r (hb r hr)) k_great12) (k_right g) awake_fn k_win k_same k_line k_sr k_fit12 k_sameC
  | [],h=>exact h.elim
  | [_],h=>exact h.2.elim
  | _::_::_::_,h=>exact h.2.2.elim
end Go.Proofs.YthhjkfilfhmakaaDoor
namespace Go.Proofs.YthhjkfilfhmakaaDoor.scrollbackMovesUpto
open Nx Go.ChangeShapes Go.WideShapes Go.ChangeAt Go.RowKit
theorem own:ownKnob Tryd.prog.godebug=none:=by kernel_rfl
set_option maxRecDepth 100000 in
/-- What the walks give, for every argument and every world that holds the tables. -/
theorem contract (H:Type) (enc:TypeId × Value→H) (W:World) (base:Nat) (args:Array Value) (ds gs:List (DataW H)) (before:List MemPlace)
    (hval:∀ (j:Nat) t v,Tryd.f4.params[j]? = some t→args[j]? = some v→Value.okWide Tryd.prog W .any base t v)
    (hW:DataW.Whole enc Tryd.prog Tryd.f4.params.toList Rows.scrollbackMovesSpec.vars false W args.toList ds gs before)
    (hB:Rows.uptoBulkAll ds≤1048576) (hw:(DataW.weightsEach Tryd.prog Tryd.f4.params.toList ds).all (· ≤ reachBytes)=true) (hL:laidMet Tryd.prog Rows.scrollbackMovesUptoRow.laid W) :
    Calls Tryd.prog 4 args W fun e W'=>∃ v,e = .returned v∧Rows.scrollbackMovesSpec.post enc Tryd.prog Tryd.f4 false true false false W args v W' :=
  law_contractB (B:=1048576) (tb:=4) (tys:=[tRows,tGrid]) (Γ:=gam) (laid:=Rows.scrollbackMovesUptoRow.laid) (by kernel_rfl) Tryd.underlying4 rfl laidOut (of_decide_eq_true (by kernel_rfl)) (fun ds hd=>by
    obtain ⟨d0,d1,rfl⟩:=len2 (hd.trans (show Tryd.f4.params.toList.length=2 by kernel_rfl))
    rfl) (by kernel_rfl) gam_is law_ScrollbackMovesUpto hval (by rw [bulkA];exact hB) hW hw hL
/-- A world for the witness: the tables hold what their initialisers lay. -/
noncomputable def laidWorld (os:Os):World :=
  { World.holding Tryd.prog os ⟨#[], #[],[]⟩ with heap:=(((World.holding Tryd.prog os ⟨#[], #[],[]⟩).heap.modify 0 fun
      | .cells _ t frozen=>.cells ((flat Rows.laid_unicode_utf8_first).toArray) t frozen
      | o=>o).modify 1 fun
      | .cells _ t frozen=>.cells ((flat (H:=Unit) Rows.laid_unicode_utf8_acceptRanges).toArray) t frozen
      | o=>o) }
theorem laid_met (os:Os):laidMet Tryd.prog Rows.scrollbackMovesUptoRow.laid ((laidWorld os).forCall (fun _ _=>0) ⟨#[], #[.slice none 0 0,.agg #[.int .i64 0,.int .i64 0,.slice none 0 0]],[]⟩).memory :=
  laidMet_of_run' 8 (by kernel_rfl) (by kernel_rfl)
theorem reads (os:Os) {H:Type} (enc:TypeId × Value→H):∃ places,DataW.whole enc Tryd.prog ((laidWorld os).forCall (fun _ _=>0) ⟨#[], #[.slice none 0 0,.agg #[.int .i64 0,.int .i64 0,.slice none 0 0]],[]⟩).memory Tryd.f4.params.toList Rows.scrollbackMovesSpec.vars false (#[.slice none 0 0,.agg #[.int .i64 0,.int .i64 0,.slice none 0 0]]:Array Value).toList 12=some ([.nil,.agg [.lit (.int .i64 0),.lit (.int .i64 0),.nil]],[],places) :=
  ⟨[],by kernel_rfl⟩
set_option maxRecDepth 100000 in
theorem lifted (os:Os) (started:os.Started) (H:Type) (enc:TypeId × Value→H) (F:Stop.Interp) :
    ReturnsInHanded {} Tryd.checked os 4 .any ((Rows.OpenSpec.upto Rows.scrollbackMovesSpec).preRow enc Tryd.prog Tryd.f4 Rows.scrollbackMovesUptoRow.domain false Rows.scrollbackMovesUptoRow.laid) (((Rows.OpenSpec.upto Rows.scrollbackMovesSpec).at F).post enc Tryd.prog Tryd.f4 false true false false):=by
  obtain ⟨places,hx⟩:=reads os enc
  refine returnsInHanded_of_row (C:=Tryd.checked) (s:=Rows.OpenSpec.upto Rows.scrollbackMovesSpec) own started (by kernel_rfl) Tryd.func4
    (witness_row_at (enc:=enc) (C:=Tryd.checked) false (laidWorld os) #[.slice none 0 0,.agg #[.int .i64 0,.int .i64 0,.slice none 0 0]] rfl (by kernel_rfl) (by kernel_rfl) (by kernel_rfl)
      (OpenSpec.preRow_of_cond 12 hx (by kernel_rfl) (fun k hk=>by cases hk;kernel_rfl) (by kernel_rfl) (laid_met os))) ?_
  intro W base args ds gs before hval hW _ hcond hw hL _ _
  have hk:=hcond _ rfl
  have hV:=hW
  obtain ⟨p,q,hA,hV, -, -, -⟩:=hV
  obtain ⟨rfl, -⟩:=trodVars_none hV
  have e1:(Rows.OpenSpec.upto Rows.scrollbackMovesSpec).bare.plain.varTypes Tryd.checked.prog=[]:=rfl
  rw [e1,zP,zP] at hw
  rw [zP] at hk
  exact contract H enc W base args ds _ before hval hW (by simpa [Rows.uptoSmall] using hk) hw hL
theorem said:Rows.ScrollbackMovesUptoSaid :=
  OpenClaim.holds_of_cond 4 Tryd.f4 rfl rfl rfl rfl rfl rfl rfl ⟨rfl,rfl,rfl,rfl,rfl⟩ rfl rfl rfl rfl rfl (by kernel_rfl) Tryd.func4 (by kernel_rfl)
    (of_decide_eq_true (by kernel_rfl)) (by unfold Func.isWrapper;first | (rw [if_pos (by decide +kernel)];kernel_rfl) | (rw [if_neg (by decide +kernel)];exact ⟨rfl,rfl⟩))
    (fun os started H enc _ F=>by rw [OpenClaim.pre_eq_preRow];exact lifted os started H enc F)
theorem plain (f:FuncId) (fn:Func) (hf:Tryd.pinned.checked.prog.funcNamed Rows.scrollbackMovesUptoRow.func=some f) (hfn:Tryd.pinned.checked.prog.funcs[f]? = some fn) :
    false=Tryd.pinned.checked.prog.looks []∧∀ (j:Nat) t,fn.params[j]? = some t→Tryd.pinned.checked.prog.wantsStandIn t=false:=by
  obtain rfl:f=4:=Option.some.inj ((show Tryd.prog.funcNamed Rows.scrollbackMovesUptoRow.func=some 4 by kernel_rfl).symm.trans hf) |>.symm
  obtain rfl:fn=Tryd.f4:=(Option.some.inj (Tryd.func4.symm.trans hfn)).symm
  refine ⟨by kernel_rfl,fun j t ht=>?_⟩
  exact of_decide_eq_true (List.all_eq_true.1 (show (Tryd.f4.params.toList.all fun t=>decide (Tryd.pinned.checked.prog.wantsStandIn t=false))=true by kernel_rfl) t (List.mem_iff_getElem?.2 ⟨j,by simpa using ht⟩))
theorem card:Rows.ScrollbackMovesUptoCardSaid :=
  Claim7.holds_tied_plain_at .later [] _ _ _ _ said (fun _ h=>by cases h) (by kernel_rfl) (fun _ h=>by cases h) scrollbackMovesUpto_row_tie rfl ⟨rfl,rfl⟩ (by kernel_rfl) rfl plain (by kernel_rfl)
end Go.Proofs.YthhjkfilfhmakaaDoor.scrollbackMovesUpto
