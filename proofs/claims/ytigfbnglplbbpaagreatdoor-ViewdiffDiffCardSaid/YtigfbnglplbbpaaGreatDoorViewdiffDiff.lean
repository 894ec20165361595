/-
  For any two views the law narratorlaw20.ViewdiffDiff returns true: Diff returns the changes of the reference implementation. Conditions: those of the card alone (the tables of unicode/utf8 hold at the start what the library lays).
-/
import Derived.Test.YtigfbnglplbbpaaGreatDoorCards
import Derived.Test.YtigfbnglplbbpaaGreatDoorTie
import Derived.Test.YtigfbnglplbbpaaGreatDoorFns
import Derived.Lib.LaidTab
set_option linter.unusedSimpArgs false
set_option linter.unusedVariables false
set_option linter.unnecessarySimpa false
namespace Go.Proofs.YtigfbnglplbbpaaGreatDoor
open Nx
theorem len2 {α:Type} {l:List α} (h:l.length=2):∃ d0 d1,l=[d0,d1]:=by
 rcases l with _ | ⟨d0,_ | ⟨d1,_ | _⟩⟩<;>simp at h
 exact ⟨d0,d1,rfl⟩
theorem laidOut:laidOutB Tryz.prog=true:=by kernel_rfl
theorem law_ViewdiffDiff:∀ xss,WTAll [tView,tView] xss→FnP gam Tryz.prog 3 (argsA [tView,tView] xss) (.bool true):=by
 intro xss h
 match xss,h with
 | [x0,x1],h =>
  obtain ⟨h0,h1,_⟩:=h
  obtain ⟨a,rfl⟩:=view_of h0
  obtain ⟨b,rfl⟩:=view_of h1
  exact diffLaw20_fn is_law20_ViewdiffDiff (by decide) k_greatV awake_fn k_diff k_rdiff k_rsame a b (fun h=>(greatV_sm h).1) (fun h=>(greatV_sm h).1)
 | [],h=>exact h.elim
 | [_],h=>exact h.2.elim
 | _::_::_::_,h=>exact h.2.2.elim
end Go.Proofs.YtigfbnglplbbpaaGreatDoor
namespace Go.Proofs.YtigfbnglplbbpaaGreatDoor.viewdiffDiff
open Nx Go.ChangeShapes Go.WideShapes Go.ChangeAt Go.RowKit
theorem own:ownKnob Tryz.prog.godebug=none:=by kernel_rfl
set_option maxRecDepth 100000 in
/-- What the walks give, for every argument and every world that holds the tables. -/
theorem contract (H:Type) (enc:TypeId × Value→H) (W:World) (base:Nat) (args:Array Value) (ds gs:List (DataW H)) (before:List MemPlace)
  (hval:∀ (j:Nat) t v,Tryz.f3.params[j]? = some t→args[j]? = some v→Value.okWide Tryz.prog W .any base t v)
  (hW:DataW.Whole enc Tryz.prog Tryz.f3.params.toList Rows.viewdiffDiffSpec.vars false W args.toList ds gs before)
  (hw:(DataW.weightsEach Tryz.prog Tryz.f3.params.toList ds).all (· ≤ reachBytes)=true) (hL:laidMet Tryz.prog Rows.viewdiffDiffRow.laid W) :
  Calls Tryz.prog 3 args W fun e W'=>∃ v,e = .returned v∧Rows.viewdiffDiffSpec.post enc Tryz.prog Tryz.f3 false true false false W args v W' :=
 law_contract (tb:=4) (tys:=[tView,tView]) (Γ:=gam) (laid:=Rows.viewdiffDiffRow.laid) (by kernel_rfl) Tryz.underlying4 rfl laidOut (of_decide_eq_true (by kernel_rfl)) (fun ds hd=>by
  obtain ⟨d0,d1,rfl⟩:=len2 (hd.trans (show Tryz.f3.params.toList.length=2 by kernel_rfl))
  rfl) (by kernel_rfl) gam_is law_ViewdiffDiff hval hW hw hL
/-- A world for the witness: the tables hold what their initialisers lay. -/
noncomputable def laidWorld (os:Os):World :=
 { World.holding Tryz.prog os ⟨#[], #[],[]⟩ with heap:=(((World.holding Tryz.prog os ⟨#[], #[],[]⟩).heap.modify 0 fun
   | .cells _ t frozen=>.cells ((flat Rows.laid_unicode_utf8_first).toArray) t frozen
   | o=>o).modify 1 fun
   | .cells _ t frozen=>.cells ((flat (H:=Unit) Rows.laid_unicode_utf8_acceptRanges).toArray) t frozen
   | o=>o) }
theorem laid_met (os:Os):laidMet Tryz.prog Rows.viewdiffDiffRow.laid ((laidWorld os).forCall (fun _ _=>0) ⟨#[], #[.agg #[.int .i64 0,.int .i64 0,.slice none 0 0,.int .i64 0,.int .i64 0,.bool false],.agg #[.int .i64 0,.int .i64 0,.slice none 0 0,.int .i64 0,.int .i64 0,.bool false]],[]⟩).memory :=
 laidMet_of_run' 8 (by kernel_rfl) (by kernel_rfl)
theorem reads (os:Os) {H:Type} (enc:TypeId × Value→H):∃ places,DataW.whole enc Tryz.prog ((laidWorld os).forCall (fun _ _=>0) ⟨#[], #[.agg #[.int .i64 0,.int .i64 0,.slice none 0 0,.int .i64 0,.int .i64 0,.bool false],.agg #[.int .i64 0,.int .i64 0,.slice none 0 0,.int .i64 0,.int .i64 0,.bool false]],[]⟩).memory Tryz.f3.params.toList Rows.viewdiffDiffSpec.vars false (#[.agg #[.int .i64 0,.int .i64 0,.slice none 0 0,.int .i64 0,.int .i64 0,.bool false],.agg #[.int .i64 0,.int .i64 0,.slice none 0 0,.int .i64 0,.int .i64 0,.bool false]]:Array Value).toList 12=some ([.agg [.lit (.int .i64 0),.lit (.int .i64 0),.nil,.lit (.int .i64 0),.lit (.int .i64 0),.lit (.bool false)],.agg [.lit (.int .i64 0),.lit (.int .i64 0),.nil,.lit (.int .i64 0),.lit (.int .i64 0),.lit (.bool false)]],[],places) :=
 ⟨[],by kernel_rfl⟩
set_option maxRecDepth 100000 in
theorem lifted (os:Os) (started:os.Started) (H:Type) (enc:TypeId × Value→H) (F:Stop.Interp) :
  ReturnsInHanded {} Tryz.checked os 3 .any ((OpenSpec.ofChange Rows.viewdiffDiffSpec).preRow enc Tryz.prog Tryz.f3 Rows.viewdiffDiffRow.domain false Rows.viewdiffDiffRow.laid) (((OpenSpec.ofChange Rows.viewdiffDiffSpec).at F).post enc Tryz.prog Tryz.f3 false true false false):=by
 obtain ⟨places,hx⟩:=reads os enc
 refine returnsInHanded_of_row (C:=Tryz.checked) (s:=OpenSpec.ofChange Rows.viewdiffDiffSpec) own started (by kernel_rfl) Tryz.func3
  (witness_row_at (enc:=enc) (C:=Tryz.checked) false (laidWorld os) #[.agg #[.int .i64 0,.int .i64 0,.slice none 0 0,.int .i64 0,.int .i64 0,.bool false],.agg #[.int .i64 0,.int .i64 0,.slice none 0 0,.int .i64 0,.int .i64 0,.bool false]] rfl (by kernel_rfl) (by kernel_rfl) (by kernel_rfl)
   (OpenSpec.preRow_of_cond 12 hx (by kernel_rfl) (fun k hk=>by cases hk) (by kernel_rfl) (laid_met os))) ?_
 intro W base args ds gs before hval hW _ _ hw hL _ _
 refine contract H enc W base args ds gs before hval hW ?_ hL
 have hV:=hW
 obtain ⟨p,q,hA,hV, -, -, -⟩:=hV
 obtain ⟨rfl, -⟩:=trodVars_none hV
 have e1:(OpenSpec.ofChange Rows.viewdiffDiffSpec).bare.plain.varTypes Tryz.checked.prog=[]:=rfl
 rw [e1,List.append_nil,List.append_nil] at hw
 exact hw
theorem said:Rows.ViewdiffDiffSaid :=
 OpenClaim.holds_of_cond 3 Tryz.f3 rfl rfl rfl rfl rfl rfl rfl ⟨rfl,rfl,rfl,rfl,rfl⟩ rfl rfl rfl rfl rfl (by kernel_rfl) Tryz.func3 (by kernel_rfl)
  (of_decide_eq_true (by kernel_rfl)) (by unfold Func.isWrapper;first | (rw [if_pos (by decide +kernel)];kernel_rfl) | (rw [if_neg (by decide +kernel)];exact ⟨rfl,rfl⟩))
  (fun os started H enc _ F=>by rw [OpenClaim.pre_eq_preRow];exact lifted os started H enc F)
theorem plain (f:FuncId) (fn:Func) (hf:Tryz.pinned.checked.prog.funcNamed Rows.viewdiffDiffRow.func=some f) (hfn:Tryz.pinned.checked.prog.funcs[f]? = some fn) :
  false=Tryz.pinned.checked.prog.looks []∧∀ (j:Nat) t,fn.params[j]? = some t→Tryz.pinned.checked.prog.wantsStandIn t=false:=by
 obtain rfl:f=3:=Option.some.inj ((show Tryz.prog.funcNamed Rows.viewdiffDiffRow.func=some 3 by kernel_rfl).symm.trans hf) |>.symm
 obtain rfl:fn=Tryz.f3:=(Option.some.inj (Tryz.func3.symm.trans hfn)).symm
 refine ⟨by kernel_rfl,fun j t ht=>?_⟩
 exact of_decide_eq_true (List.all_eq_true.1 (show (Tryz.f3.params.toList.all fun t=>decide (Tryz.pinned.checked.prog.wantsStandIn t=false))=true by kernel_rfl) t (List.mem_iff_getElem?.2 ⟨j,by simpa using ht⟩))
theorem card:Rows.ViewdiffDiffCardSaid :=
 Claim7.holds_tied_plain_at .later [] _ _ _ _ said (fun _ h=>by cases h) (by kernel_rfl) (fun _ h=>by cases h) viewdiffDiff_row_tie rfl ⟨rfl,rfl⟩ (by kernel_rfl) rfl plain (by kernel_rfl)
end Go.Proofs.YtigfbnglplbbpaaGreatDoor.viewdiffDiff
