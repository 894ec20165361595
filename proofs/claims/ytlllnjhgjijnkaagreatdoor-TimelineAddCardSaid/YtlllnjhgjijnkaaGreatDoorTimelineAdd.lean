/-
  For any moments the law narratorlaw21.TimelineAdd returns true: New and Add return the results of the reference implementation. Conditions: those of the card alone (the tables of unicode/utf8 hold at the start what the library lays).
-/
import Derived.Test.YtlllnjhgjijnkaaGreatDoorCards
import Derived.Test.YtlllnjhgjijnkaaGreatDoorTie
import Derived.Test.YtlllnjhgjijnkaaGreatDoorFns
import Derived.Lib.LaidTab
set_option linter.all false
set_option maxRecDepth 100000
namespace Go.Proofs.YtlllnjhgjijnkaaGreatDoor
open Nx
theorem len1{α:Type}{l:List α}(h:l.length=1):∃ d0,l=[d0]:=by
 rcases l with _ | ⟨d0,_ | _⟩<;>simp at h;exact⟨d0,rfl⟩
theorem laidOut:laidOutB Tryz.prog=true:=by kernel_rfl
theorem law_TimelineAdd:∀ xss,aEZ [Ks] xss→FnP iX Tryz.prog 3 (Jf [Ks] xss) (.bool true):=by
 intro xss h
 match xss,h with
 | [x0],h =>
  obtain⟨h0,_⟩:=h;obtain⟨l,rfl⟩:=aEz h0;exact aCH Dp (by decide) aNZ aJR aJP aLQ aLS aJQ aLR aFy aJW l
 | [],h=>exact h.elim
 | _::_::_,h=>exact h.2.elim
end Go.Proofs.YtlllnjhgjijnkaaGreatDoor
namespace Go.Proofs.YtlllnjhgjijnkaaGreatDoor.timelineAdd
open Nx Go.ChangeShapes Go.WideShapes Go.ChangeAt Go.RowKit
theorem own:ownKnob Tryz.prog.godebug=none:=by kernel_rfl
/-- What the walks give, for every argument and every world that holds the tables. -/
theorem contract(H:Type)(vJ:TypeId × Value→H)(W:World)(base:Nat)(args:Array Value)(ds gs:List (DataW H))(before:List MemPlace)
  (tA:∀ (j:Nat) t v,Tryz.f3.params[j]? = some t→args[j]? = some v→Value.okWide Tryz.prog W .any base t v)
  (hW:DataW.Whole vJ Tryz.prog Tryz.f3.params.toList Rows.timelineAddSpec.vars false W args.toList ds gs before)
  (hw:(DataW.weightsEach Tryz.prog Tryz.f3.params.toList ds).all (· ≤ reachBytes)=true) (hL:laidMet Tryz.prog Rows.timelineAddRow.laid W) :
  Calls Tryz.prog 3 args W fun e W'=>∃ v,e = .returned v∧Rows.timelineAddSpec.post vJ Tryz.prog Tryz.f3 false true false false W args v W' :=
 aAe (tb:=4) (tys:=[Ks]) (Γ:=iX) (laid:=Rows.timelineAddRow.laid) (by kernel_rfl) Tryz.underlying4 rfl laidOut (of_decide_eq_true (by kernel_rfl)) (fun ds hd=>by
  obtain⟨d0,rfl⟩:=len1 (hd.trans (show Tryz.f3.params.toList.length=1 by kernel_rfl));rfl) (by kernel_rfl) aNO law_TimelineAdd tA hW hw hL
/-- A world for the witness: the tables hold what their initialisers lay. -/
noncomputable def laidWorld (os:Os):World :=
 { World.holding Tryz.prog os ⟨#[], #[],[]⟩ with heap:=(((World.holding Tryz.prog os ⟨#[], #[],[]⟩).heap.modify 0 fun
   | .cells _ t frozen=>.cells ((Ou Rows.laid_unicode_utf8_first).toArray) t frozen
   | o=>o).modify 1 fun
   | .cells _ t frozen=>.cells ((Ou (H:=Unit) Rows.laid_unicode_utf8_acceptRanges).toArray) t frozen
   | o=>o) }
theorem laid_met(os:Os):laidMet Tryz.prog Rows.timelineAddRow.laid ((laidWorld os).forCall (fun _ _=>0) ⟨#[], #[.slice none 0 0],[]⟩).memory :=
 laidMet_of_run' 8 (by kernel_rfl) (by kernel_rfl)
theorem reads(os:Os){H:Type}(vJ:TypeId × Value→H):∃ places,DataW.whole vJ Tryz.prog ((laidWorld os).forCall (fun _ _=>0) ⟨#[], #[.slice none 0 0],[]⟩).memory Tryz.f3.params.toList Rows.timelineAddSpec.vars false (#[.slice none 0 0]:Array Value).toList 12=some ([.nil],[],places) :=
 ⟨[],by kernel_rfl⟩
theorem lifted(os:Os)(started:os.Started)(H:Type)(vJ:TypeId × Value→H)(F:Stop.Interp) :
  ReturnsInHanded {} Tryz.checked os 3 .any ((OpenSpec.ofChange Rows.timelineAddSpec).preRow vJ Tryz.prog Tryz.f3 Rows.timelineAddRow.domain false Rows.timelineAddRow.laid) (((OpenSpec.ofChange Rows.timelineAddSpec).at F).post vJ Tryz.prog Tryz.f3 false true false false):=by
 obtain⟨places,hx⟩:=reads os vJ;refine returnsInHanded_of_row (C:=Tryz.checked) (s:=OpenSpec.ofChange Rows.timelineAddSpec) own started (by kernel_rfl) Tryz.func3
  (witness_row_at (enc:=vJ) (C:=Tryz.checked) false (laidWorld os) #[.slice none 0 0] rfl (by kernel_rfl) (by kernel_rfl) (by kernel_rfl)
   (OpenSpec.preRow_of_cond 12 hx (by kernel_rfl) (fun k hk=>by cases hk) (by kernel_rfl) (laid_met os))) ?_
 intro W base args ds gs before tA hW _ _ hw hL _ _;refine contract H vJ W base args ds gs before tA hW ?_ hL;have hV:=hW;obtain⟨p,q,hA,hV, -, -, -⟩:=hV;obtain⟨rfl, -⟩:=trodVars_none hV;have e1:(OpenSpec.ofChange Rows.timelineAddSpec).bare.plain.varTypes Tryz.checked.prog=[]:=rfl;rw[e1,List.append_nil,List.append_nil] at hw;exact hw
theorem said:Rows.TimelineAddSaid :=
 OpenClaim.holds_of_cond 3 Tryz.f3 rfl rfl rfl rfl rfl rfl rfl ⟨rfl,rfl,rfl,rfl,rfl⟩ rfl rfl rfl rfl rfl (by kernel_rfl) Tryz.func3 (by kernel_rfl)
  (of_decide_eq_true (by kernel_rfl)) (by unfold Func.isWrapper;first | (rw[if_pos (by decide +kernel)];kernel_rfl) | (rw[if_neg (by decide +kernel)];exact⟨rfl,rfl⟩))
  (fun os started H vJ _ F=>by rw[OpenClaim.pre_eq_preRow];exact lifted os started H vJ F)
theorem plain(f:FuncId)(fn:Func)(hf:Tryz.pinned.checked.prog.funcNamed Rows.timelineAddRow.func=some f)(hfn:Tryz.pinned.checked.prog.funcs[f]? = some fn) :
  false=Tryz.pinned.checked.prog.looks []∧∀ (j:Nat) t,fn.params[j]? = some t→Tryz.pinned.checked.prog.wantsStandIn t=false:=by
 obtain rfl:f=3:=Option.some.inj ((show Tryz.prog.funcNamed Rows.timelineAddRow.func=some 3 by kernel_rfl).symm.trans hf) |>.symm;obtain rfl:fn=Tryz.f3:=(Option.some.inj (Tryz.func3.symm.trans hfn)).symm;refine⟨by kernel_rfl,fun j t ht=>?_⟩;exact of_decide_eq_true (List.all_eq_true.1 (show(Tryz.f3.params.toList.all fun t=>decide (Tryz.pinned.checked.prog.wantsStandIn t=false))=true by kernel_rfl) t (List.mem_iff_getElem?.2 ⟨j,by simpa using ht⟩))
theorem card:Rows.TimelineAddCardSaid :=
 Claim7.holds_tied_plain_at .later [] _ _ _ _ said (fun _ h=>by cases h) (by kernel_rfl) (fun _ h=>by cases h) timelineAdd_row_tie rfl ⟨rfl,rfl⟩ (by kernel_rfl) rfl plain (by kernel_rfl)
end Go.Proofs.YtlllnjhgjijnkaaGreatDoor.timelineAdd
