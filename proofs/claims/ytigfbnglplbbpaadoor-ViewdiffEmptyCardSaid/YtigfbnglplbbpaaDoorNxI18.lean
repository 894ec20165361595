import Derived.Test.YtigfbnglplbbpaaDoorNxI10
import Derived.Test.YtigfbnglplbbpaaDoorNxDL
set_option linter.unusedSimpArgs false
set_option linter.unusedVariables false
set_option linter.unnecessarySimpa false
open Nat renaming reduceEqDiff → qE, reduceAdd → qA, reduceLT → qL, reduceLeDiff → qD
namespace Go.Proofs.YtigfbnglplbbpaaDoor.Nx
open Go
variable {P:Program} {N:Nat} {Γ:Tabs}
set_option maxHeartbeats 1000000 in
theorem emptyLaw20_fn {f fs fa fd fe:FuncId} (H:FnIs P f N [.t 4] (x_law20_ViewdiffEmpty fs fa fd fe)) (hN:2≤N) (Hs:SmallOk Γ P fs) (Ha:FnP Γ P fa [] (.bool true)) (Hd:DiffOk Γ P fd) (He:SameOk Γ P fe) (a b:Vw) :
    FnP Γ P f [vwA a,vwA b] (.bool true):=by
  refine .of_W H (by simpa using hN) ?_
  have hs:=Hs a b
  unfold x_law20_ViewdiffEmpty
  simp only [vwA,Vw.ds,List.map_cons,List.map_nil] at hs ⊢
  refine W_seq (W_reg ?_);simp only [xq,reduceIte,qE,qA,qL,qD]
  refine W_seq ?_
  refine W_seq (W_reg ?_);simp only [xq,reduceIte,qE,qA,qL,qD]
  refine c_fn (hs) rfl ?_;simp only [xq,reduceIte,qE,qA,qL,qD]
  refine W_cond rfl (fun hc=>?_) (fun hc=>W_skip ?_)
  · refine W_seq (W_reg ?_);simp only [xq,reduceIte,qE,qA,qL,qD]
    refine c_fn (Ha) rfl ?_;simp only [xq,reduceIte,qE,qA,qL,qD]
    refine W_ret (.tmp ?_ rfl)
    simp only [x_upd,reduceIte]
  obtain ⟨⟨sa,_⟩,⟨sb,_⟩,ha,hb⟩:=small20 (by simpa using hc)
  have hd:=Hd a b sa sb
  have hd2:=Hd a a sa sa
  rw [(diff_nil ha ha).2 rfl] at hd2
  have hE:=He a b
  have hl:decide (((diffV a b).length:Int)=0)=decide (a=b):=by
    rw [decide_eq_decide,← diff_nil ha hb]
    constructor
    · intro h;exact List.eq_nil_of_length_eq_zero (by omega)
    · intro h;rw [h];rfl
  simp only [vwA,Vw.ds,List.map_cons,List.map_nil] at hd hd2 hE
  simp only [xq,reduceIte,qE,qA,qL,qD]
  refine W_seq (W_drw (by simp) ?_);simp only [xq,reduceIte,qE,qA,qL,qD,Vw.ds,List.replicate_zero,List.append_nil]
  refine c_fn (hd) rfl ?_;simp only [xq,reduceIte,qE,qA,qL,qD,Vw.ds,cgRows_len,hl]
  refine c_fn (hE) rfl ?_;simp only [xq,reduceIte,qE,qA,qL,qD,Vw.ds,BEq.rfl]
  refine c_fn (hd2) rfl ?_;simp only [xq,reduceIte,qE,qA,qL,qD,Vw.ds,cgRows_len,List.length_nil,(by decide:decide (((0:Nat):Int)=0)=true)]
  refine c_fn (Ha) rfl ?_;simp only [xq,reduceIte,qE,qA,qL,qD]
  refine W_ret (.tmp ?_ rfl)
  simp only [x_upd,reduceIte]
end Go.Proofs.YtigfbnglplbbpaaDoor.Nx
