/-
  For any number of eight bits the law narratorlaw21.TimelineLimit returns true: a timeline keeps the last 200 steps. Conditions: those of the card alone (the tables of unicode/utf8 hold at the start what the library lays).
-/
import Derived.Test.YtlllnjhgjijnkaaDoorCards
import Derived.Test.YtlllnjhgjijnkaaDoorTie
import Derived.Test.YtlllnjhgjijnkaaDoorFns
import Derived.Lib.LaidTab
set_option linter.unusedSimpArgs false
set_option linter.unusedVariables false
set_option linter.unnecessarySimpa false
namespace Go.Proofs.YtlllnjhgjijnkaaDoor
open Nx
theorem len1 {α:Type} {l:List α} (h:l.length=1):∃ d0,l=[d0]:=by
 rcases l with _ | ⟨d0,_ | _⟩<;>simp at h
 exact ⟨d0,rfl⟩
theorem laidOut:laidOutB Tryd.prog=true:=by kernel_rfl
theorem law_TimelineLimit:∀ xss,WTAll [.int .u8] xss→FnP gam Tryd.prog 6 (argsA [.int .u8] xss) (.bool true):=by
 intro xss h
 match xss,h with
 | [x0],h =>
  obtain ⟨h0,_⟩:=h
  obtain ⟨n,rfl,hn⟩:=h0
  have hb:(0:Int)≤n∧n≤255:=hn
  obtain ⟨k,rfl⟩:=Int.eq_ofNat_of_zero_le hb.1
  exact limitLaw21_fn is_law21_TimelineLimit (by decide) k_tnew k_tadd k_tat k_vequal k_tlast awake_fn li_V li_W k (by omega)
 | [],h=>exact h.elim
 | _::_::_,h=>exact h.2.elim
end Go.Proofs.YtlllnjhgjijnkaaDoor
namespace Go.Proofs.YtlllnjhgjijnkaaDoor.timelineLimit
open Nx Go.ChangeShapes Go.WideShapes Go.ChangeAt Go.RowKit
theorem own:ownKnob Tryd.prog.godebug=none:=by kernel_rfl
set_option maxRecDepth 100000 in
/-- What the walks give, for every argument and every world that holds the tables. -/
theorem contract (H:Type) (enc:TypeId × Value→H) (W:World) (base:Nat) (args:Array Value) (ds gs:List (DataW H)) (before:List MemPlace)
  (hval:∀ (j:Nat) t v,Tryd.f6.params[j]? = some t→args[j]? = some v→Value.okWide Tryd.prog W .any base t v)
  (hW:DataW.Whole enc Tryd.prog Tryd.f6.params.toList Rows.timelineLimitSpec.vars false W args.toList ds gs before)
  (hw:(DataW.weightsEach Tryd.prog Tryd.f6.params.toList ds).all (· ≤ reachBytes)=true) (hL:laidMet Tryd.prog Rows.timelineLimitRow.laid W) :
  Calls Tryd.prog 6 args W fun e W'=>∃ v,e = .returned v∧Rows.timelineLimitSpec.post enc Tryd.prog Tryd.f6 false true false false W args v W' :=
 law_contract (tb:=4) (tys:=[.int .u8]) (Γ:=gam) (laid:=Rows.timelineLimitRow.laid) (by kernel_rfl) Tryd.underlying4 rfl laidOut (of_decide_eq_true (by kernel_rfl)) (fun ds hd=>by
  obtain ⟨d0,rfl⟩:=len1 (hd.trans (show Tryd.f6.params.toList.length=1 by kernel_rfl))
  rfl) (by kernel_rfl) gam_is law_TimelineLimit hval hW hw hL
/-- A world for the witness: the tables hold what their initialisers lay. -/
noncomputable def laidWorld (os:Os):World :=
 { World.holding Tryd.prog os ⟨#[], #[],[]⟩ with heap:=(((World.holding Tryd.prog os ⟨#[], #[],[]⟩).heap.modify 0 fun
   | .cells _ t frozen=>.cells ((flat Rows.laid_unicode_utf8_first).toArray) t frozen
   | o=>o).modify 1 fun
   | .cells _ t frozen=>.cells ((flat (H:=Unit) Rows.laid_unicode_utf8_acceptRanges).toArray) t frozen
   | o=>o) }
theorem laid_met (os:Os):laidMet Tryd.prog Rows.timelineLimitRow.laid ((laidWorld os).forCall (fun _ _=>0) ⟨#[], #[.int .u8 0],[]⟩).memory :=
 laidMet_of_run' 8 (by kernel_rfl) (by kernel_rfl)
theorem reads (os:Os) {H:Type} (enc:TypeId × Value→H):∃ places,DataW.whole enc Tryd.prog ((laidWorld os).forCall (fun _ _=>0) ⟨#[], #[.int .u8 0],[]⟩).memory Tryd.f6.params.toList Rows.timelineLimitSpec.vars false (#[.int .u8 0]:Array Value).toList 12=some ([.lit (.int .u8 0)],[],places) :=
 ⟨[],by kernel_rfl⟩
set_option maxRecDepth 100000 in
theorem lifted (os:Os) (started:os.Started) (H:Type) (enc:TypeId × Value→H) (F:Stop.Interp) :
  ReturnsInHanded {} Tryd.checked os 6 .any ((OpenSpec.ofChange Rows.timelineLimitSpec).preRow enc Tryd.prog Tryd.f6 Rows.timelineLimitRow.domain false Rows.timelineLimitRow.laid) (((OpenSpec.ofChange Rows.timelineLimitSpec).at F).post enc Tryd.prog Tryd.f6 false true false false):=by
 obtain ⟨places,hx⟩:=reads os enc
 refine returnsInHanded_of_row (C:=Tryd.checked) (s:=OpenSpec.ofChange Rows.timelineLimitSpec) own started (by kernel_rfl) Tryd.func6
  (witness_row_at (enc:=enc) (C:=Tryd.checked) false (laidWorld os) #[.int .u8 0] rfl (by kernel_rfl) (by kernel_rfl) (by kernel_rfl)
   (OpenSpec.preRow_of_cond 12 hx (by kernel_rfl) (fun k hk=>by cases hk) (by kernel_rfl) (laid_met os))) ?_
 intro W base args ds gs before hval hW _ _ hw hL _ _
 refine contract H enc W base args ds gs before hval hW ?_ hL
 have hV:=hW
 obtain ⟨p,q,hA,hV, -, -, -⟩:=hV
 obtain ⟨rfl, -⟩:=trodVars_none hV
 have e1:(OpenSpec.ofChange Rows.timelineLimitSpec).bare.plain.varTypes Tryd.checked.prog=[]:=rfl
 rw [e1,List.append_nil,List.append_nil] at hw
 exact hw
theorem said:Rows.TimelineLimitSaid :=
 OpenClaim.holds_of_cond 6 Tryd.f6 rfl rfl rfl rfl rfl rfl rfl ⟨rfl,rfl,rfl,rfl,rfl⟩ rfl rfl rfl rfl rfl (by kernel_rfl) Tryd.func6 (by kernel_rfl)
  (of_decide_eq_true (by kernel_rfl)) (by unfold Func.isWrapper;first | (rw [if_pos (by decide +kernel)];kernel_rfl) | (rw [if_neg (by decide +kernel)];exact ⟨rfl,rfl⟩))
  (fun os started H enc _ F=>by rw [OpenClaim.pre_eq_preRow];exact lifted os started H enc F)
theorem plain (f:FuncId) (fn:Func) (hf:Tryd.pinned.checked.prog.funcNamed Rows.timelineLimitRow.func=some f) (hfn:Tryd.pinned.checked.prog.funcs[f]? = some fn) :
  false=Tryd.pinned.checked.prog.looks []∧∀ (j:Nat) t,fn.params[j]? = some t→Tryd.pinned.checked.prog.wantsStandIn t=false:=by
 obtain rfl:f=6:=Option.some.inj ((show Tryd.prog.funcNamed Rows.timelineLimitRow.func=some 6 by kernel_rfl).symm.trans hf) |>.symm
 obtain rfl:fn=Tryd.f6:=(Option.some.inj (Tryd.func6.symm.trans hfn)).symm
 refine ⟨by kernel_rfl,fun j t ht=>?_⟩
 exact of_decide_eq_true (List.all_eq_true.1 (show (Tryd.f6.params.toList.all fun t=>decide (Tryd.pinned.checked.prog.wantsStandIn t=false))=true by kernel_rfl) t (List.mem_iff_getElem?.2 ⟨j,by simpa using ht⟩))
theorem card:Rows.TimelineLimitCardSaid :=
 Claim7.holds_tied_plain_at .later [] _ _ _ _ said (fun _ h=>by cases h) (by kernel_rfl) (fun _ h=>by cases h) timelineLimit_row_tie rfl ⟨rfl,rfl⟩ (by kernel_rfl) rfl plain (by kernel_rfl)
end Go.Proofs.YtlllnjhgjijnkaaDoor.timelineLimit
