import Derived.Test.YtigfbnglplbbpaaDoorNxI10
import Derived.Test.YtigfbnglplbbpaaDoorNxDL
set_option linter.unusedSimpArgs false
set_option linter.unusedVariables false
set_option linter.unnecessarySimpa false
open Nat renaming reduceEqDiff → qE, reduceAdd → qA, reduceLT → qL, reduceLeDiff → qD
namespace Go.Proofs.YtigfbnglplbbpaaDoor.Nx
open Go
variable {P:Program} {N:Nat} {Γ:Tabs}
set_option maxHeartbeats 1000000 in
theorem appliesLaw20_fn {f fs fa fd fp fe:FuncId} (H:FnIs P f N [.t 4] (x_law20_ViewdiffApplies fs fa fd fp fe)) (hN:2≤N) (Hs:SmallOk Γ P fs) (Ha:FnP Γ P fa [] (.bool true)) (Hd:DiffOk Γ P fd) (Hp:ApOk Γ P fp) (He:SameOk Γ P fe) (a b:Vw) :
    FnP Γ P f [vwA a,vwA b] (.bool true):=by
  refine .of_W H (by simpa using hN) ?_
  have hs:=Hs a b
  unfold x_law20_ViewdiffApplies
  simp only [vwA,Vw.ds,List.map_cons,List.map_nil] at hs ⊢
  refine W_seq (W_reg ?_);simp only [xq,reduceIte,qE,qA,qL,qD]
  refine W_seq ?_
  refine W_seq (W_reg ?_);simp only [xq,reduceIte,qE,qA,qL,qD]
  refine c_fn (hs) rfl ?_;simp only [xq,reduceIte,qE,qA,qL,qD]
  refine W_cond rfl (fun hc=>?_) (fun hc=>W_skip ?_)
  · refine W_seq (W_reg ?_);simp only [xq,reduceIte,qE,qA,qL,qD]
    refine c_fn (Ha) rfl ?_;simp only [xq,reduceIte,qE,qA,qL,qD]
    refine W_ret (.tmp ?_ rfl)
    simp only [x_upd,reduceIte]
  obtain ⟨⟨sa,_⟩,⟨sb,_⟩,ha,hb⟩:=small20 (by simpa using hc)
  have hd:=Hd a b sa sb
  have hp:=Hp a (diffV a b) (runOk_diff ha hb (sa.mono (by omega)) (sb.mono (by omega))) (diff_ok sb)
  rw [run_diff ha hb] at hp
  have hE:=He b b
  rw [decide_eq_true rfl] at hE
  simp only [apA,vwA,Vw.ds,List.map_cons,List.map_nil] at hd hp hE
  simp only [xq,reduceIte,qE,qA,qL,qD]
  refine W_seq (W_drw (by simp) ?_);simp only [xq,reduceIte,qE,qA,qL,qD,Vw.ds]
  refine c_fn (hd) rfl ?_;simp only [xq,reduceIte,qE,qA,qL,qD,Vw.ds]
  refine c_fn (hp) rfl ?_;simp only [xq,reduceIte,qE,qA,qL,qD,Vw.ds]
  refine W_seq (W_reg ?_);simp only [xq,reduceIte,qE,qA,qL,qD,decide_true,Vw.ds]
  refine c_fn (hE) rfl ?_;simp only [xq,reduceIte,qE,qA,qL,qD]
  refine c_fn (Ha) rfl ?_;simp only [xq,reduceIte,qE,qA,qL,qD]
  refine W_ret (.tmp ?_ rfl)
  simp only [x_upd,reduceIte]
end Go.Proofs.YtigfbnglplbbpaaDoor.Nx
