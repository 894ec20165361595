/-
  For any view and any two lists of changes the law narratorlaw19.ChangeConcatenation returns true: applying two lists one after the other is applying their concatenation. Conditions: those of the card alone (the tables of unicode/utf8 hold at the start what the library lays).
-/
import Derived.Test.YtadfkfgjhaijiaaDoorCards
import Derived.Test.YtadfkfgjhaijiaaDoorTie
import Derived.Test.YtadfkfgjhaijiaaDoorFns
import Derived.Lib.LaidTab
set_option linter.unusedSimpArgs false
set_option linter.unusedVariables false
set_option linter.unnecessarySimpa false
namespace Go.Proofs.YtadfkfgjhaijiaaDoor
open Nx
theorem len3 {α:Type} {l:List α} (h:l.length=3):∃ d0 d1 d2,l=[d0,d1,d2]:=by
  rcases l with _ | ⟨d0,_ | ⟨d1,_ | ⟨d2,_ | _⟩⟩⟩<;>simp at h
  exact ⟨d0,d1,d2,rfl⟩
theorem laidOut:laidOutB Tryd.prog=true:=by kernel_rfl
theorem law_ChangeConcatenation:∀ xss,WTAll [tView,tChanges,tChanges] xss→FnP gam Tryd.prog 3 (argsA [tView,tChanges,tChanges] xss) (.bool true):=by
  intro xss h
  match xss,h with
  | [x0,x1,x2],h =>
    obtain ⟨h0,h1,h2,_⟩:=h
    obtain ⟨v,rfl⟩:=view_of h0
    obtain ⟨a,rfl⟩:=changes_of h1
    obtain ⟨b,rfl⟩:=changes_of h2
    exact concatLaw19_fn is_law19_ChangeConcatenation (by decide) k_grt k_great19 awake_fn k_apN k_vequal v a b
  | [],h=>exact h.elim
  | [_],h=>exact h.2.elim
  | [_,_],h=>exact h.2.2.elim
  | _::_::_::_::_,h=>exact h.2.2.2.elim
end Go.Proofs.YtadfkfgjhaijiaaDoor
namespace Go.Proofs.YtadfkfgjhaijiaaDoor.changeConcatenation
open Nx Go.ChangeShapes Go.WideShapes Go.ChangeAt Go.RowKit
theorem own:ownKnob Tryd.prog.godebug=none:=by kernel_rfl
set_option maxRecDepth 100000 in
/-- What the walks give, for every argument and every world that holds the tables. -/
theorem contract (H:Type) (enc:TypeId × Value→H) (W:World) (base:Nat) (args:Array Value) (ds gs:List (DataW H)) (before:List MemPlace)
    (hval:∀ (j:Nat) t v,Tryd.f3.params[j]? = some t→args[j]? = some v→Value.okWide Tryd.prog W .any base t v)
    (hW:DataW.Whole enc Tryd.prog Tryd.f3.params.toList Rows.changeConcatenationSpec.vars false W args.toList ds gs before)
    (hw:(DataW.weightsEach Tryd.prog Tryd.f3.params.toList ds).all (· ≤ reachBytes)=true) (hL:laidMet Tryd.prog Rows.changeConcatenationRow.laid W) :
    Calls Tryd.prog 3 args W fun e W'=>∃ v,e = .returned v∧Rows.changeConcatenationSpec.post enc Tryd.prog Tryd.f3 false true false false W args v W' :=
  law_contract (tb:=4) (tys:=[tView,tChanges,tChanges]) (Γ:=gam) (laid:=Rows.changeConcatenationRow.laid) (by kernel_rfl) Tryd.underlying4 rfl laidOut (of_decide_eq_true (by kernel_rfl)) (fun ds hd=>by
    obtain ⟨d0,d1,d2,rfl⟩:=len3 (hd.trans (show Tryd.f3.params.toList.length=3 by kernel_rfl))
    rfl) (by kernel_rfl) gam_is law_ChangeConcatenation hval hW hw hL
/-- A world for the witness: the tables hold what their initialisers lay. -/
noncomputable def laidWorld (os:Os):World :=
  { World.holding Tryd.prog os ⟨#[], #[],[]⟩ with heap:=(((World.holding Tryd.prog os ⟨#[], #[],[]⟩).heap.modify 0 fun
      | .cells _ t frozen=>.cells ((flat Rows.laid_unicode_utf8_first).toArray) t frozen
      | o=>o).modify 1 fun
      | .cells _ t frozen=>.cells ((flat (H:=Unit) Rows.laid_unicode_utf8_acceptRanges).toArray) t frozen
      | o=>o) }
theorem laid_met (os:Os):laidMet Tryd.prog Rows.changeConcatenationRow.laid ((laidWorld os).forCall (fun _ _=>0) ⟨#[], #[.agg #[.int .i64 0,.int .i64 0,.slice none 0 0,.int .i64 0,.int .i64 0,.bool false],.slice none 0 0,.slice none 0 0],[]⟩).memory :=
  laidMet_of_run' 8 (by kernel_rfl) (by kernel_rfl)
theorem reads (os:Os) {H:Type} (enc:TypeId × Value→H):∃ places,DataW.whole enc Tryd.prog ((laidWorld os).forCall (fun _ _=>0) ⟨#[], #[.agg #[.int .i64 0,.int .i64 0,.slice none 0 0,.int .i64 0,.int .i64 0,.bool false],.slice none 0 0,.slice none 0 0],[]⟩).memory Tryd.f3.params.toList Rows.changeConcatenationSpec.vars false (#[.agg #[.int .i64 0,.int .i64 0,.slice none 0 0,.int .i64 0,.int .i64 0,.bool false],.slice none 0 0,.slice none 0 0]:Array Value).toList 12=some ([.agg [.lit (.int .i64 0),.lit (.int .i64 0),.nil,.lit (.int .i64 0),.lit (.int .i64 0),.lit (.bool false)],.nil,.nil],[],places) :=
  ⟨[],by kernel_rfl⟩
set_option maxRecDepth 100000 in
theorem lifted (os:Os) (started:os.Started) (H:Type) (enc:TypeId × Value→H) (F:Stop.Interp) :
    ReturnsInHanded {} Tryd.checked os 3 .any ((OpenSpec.ofChange Rows.changeConcatenationSpec).preRow enc Tryd.prog Tryd.f3 Rows.changeConcatenationRow.domain false Rows.changeConcatenationRow.laid) (((OpenSpec.ofChange Rows.changeConcatenationSpec).at F).post enc Tryd.prog Tryd.f3 false true false false):=by
  obtain ⟨places,hx⟩:=reads os enc
  refine returnsInHanded_of_row (C:=Tryd.checked) (s:=OpenSpec.ofChange Rows.changeConcatenationSpec) own started (by kernel_rfl) Tryd.func3
    (witness_row_at (enc:=enc) (C:=Tryd.checked) false (laidWorld os) #[.agg #[.int .i64 0,.int .i64 0,.slice none 0 0,.int .i64 0,.int .i64 0,.bool false],.slice none 0 0,.slice none 0 0] rfl (by kernel_rfl) (by kernel_rfl) (by kernel_rfl)
      (OpenSpec.preRow_of_cond 12 hx (by kernel_rfl) (fun k hk=>by cases hk) (by kernel_rfl) (laid_met os))) ?_
  intro W base args ds gs before hval hW _ _ hw hL _ _
  refine contract H enc W base args ds gs before hval hW ?_ hL
  have hV:=hW
  obtain ⟨p,q,hA,hV, -, -, -⟩:=hV
  obtain ⟨rfl, -⟩:=trodVars_none hV
  have e1:(OpenSpec.ofChange Rows.changeConcatenationSpec).bare.plain.varTypes Tryd.checked.prog=[]:=rfl
  rw [e1,List.append_nil,List.append_nil] at hw
  exact hw
theorem said:Rows.ChangeConcatenationSaid :=
  OpenClaim.holds_of_cond 3 Tryd.f3 rfl rfl rfl rfl rfl rfl rfl ⟨rfl,rfl,rfl,rfl,rfl⟩ rfl rfl rfl rfl rfl (by kernel_rfl) Tryd.func3 (by kernel_rfl)
    (of_decide_eq_true (by kernel_rfl)) (by unfold Func.isWrapper;first | (rw [if_pos (by decide +kernel)];kernel_rfl) | (rw [if_neg (by decide +kernel)];exact ⟨rfl,rfl⟩))
    (fun os started H enc _ F=>by rw [OpenClaim.pre_eq_preRow];exact lifted os started H enc F)
theorem plain (f:FuncId) (fn:Func) (hf:Tryd.pinned.checked.prog.funcNamed Rows.changeConcatenationRow.func=some f) (hfn:Tryd.pinned.checked.prog.funcs[f]? = some fn) :
    false=Tryd.pinned.checked.prog.looks []∧∀ (j:Nat) t,fn.params[j]? = some t→Tryd.pinned.checked.prog.wantsStandIn t=false:=by
  obtain rfl:f=3:=Option.some.inj ((show Tryd.prog.funcNamed Rows.changeConcatenationRow.func=some 3 by kernel_rfl).symm.trans hf) |>.symm
  obtain rfl:fn=Tryd.f3:=(Option.some.inj (Tryd.func3.symm.trans hfn)).symm
  refine ⟨by kernel_rfl,fun j t ht=>?_⟩
  exact of_decide_eq_true (List.all_eq_true.1 (show (Tryd.f3.params.toList.all fun t=>decide (Tryd.pinned.checked.prog.wantsStandIn t=false))=true by kernel_rfl) t (List.mem_iff_getElem?.2 ⟨j,by simpa using ht⟩))
theorem card:Rows.ChangeConcatenationCardSaid :=
  Claim7.holds_tied_plain_at .later [] _ _ _ _ said (fun _ h=>by cases h) (by kernel_rfl) (fun _ h=>by cases h) changeConcatenation_row_tie rfl ⟨rfl,rfl⟩ (by kernel_rfl) rfl plain (by kernel_rfl)
end Go.Proofs.YtadfkfgjhaijiaaDoor.changeConcatenation
