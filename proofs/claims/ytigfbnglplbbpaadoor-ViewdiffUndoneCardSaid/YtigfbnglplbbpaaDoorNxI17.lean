import Derived.Test.YtigfbnglplbbpaaDoorNxI10
import Derived.Test.YtigfbnglplbbpaaDoorNxDL
set_option linter.unusedSimpArgs false
set_option linter.unusedVariables false
set_option linter.unnecessarySimpa false
open Nat renaming reduceEqDiff → qE, reduceAdd → qA, reduceLT → qL, reduceLeDiff → qD
namespace Go.Proofs.YtigfbnglplbbpaaDoor.Nx
open Go
variable {P:Program} {N:Nat} {Γ:Tabs}
set_option maxHeartbeats 1000000 in
theorem undoneLaw20_fn {f fs fa fd fi fp fe:FuncId} (H:FnIs P f N [.t 4] (x_law20_ViewdiffUndone fs fa fd fi fp fe)) (hN:2≤N) (Hs:SmallOk Γ P fs) (Ha:FnP Γ P fa [] (.bool true)) (Hd:DiffOk Γ P fd) (Hi:InvOk Γ P fi) (Hp:ApOk Γ P fp) (He:SameOk Γ P fe) (a b:Vw) :
    FnP Γ P f [vwA a,vwA b] (.bool true):=by
  refine .of_W H (by simpa using hN) ?_
  have hs:=Hs a b
  unfold x_law20_ViewdiffUndone
  simp only [vwA,Vw.ds,List.map_cons,List.map_nil] at hs ⊢
  refine W_seq (W_reg ?_);simp only [xq,reduceIte,qE,qA,qL,qD]
  refine W_seq ?_
  refine W_seq (W_reg ?_);simp only [xq,reduceIte,qE,qA,qL,qD]
  refine c_fn (hs) rfl ?_;simp only [xq,reduceIte,qE,qA,qL,qD]
  refine W_cond rfl (fun hc=>?_) (fun hc=>W_skip ?_)
  · refine W_seq (W_reg ?_);simp only [xq,reduceIte,qE,qA,qL,qD]
    refine c_fn (Ha) rfl ?_;simp only [xq,reduceIte,qE,qA,qL,qD]
    refine W_ret (.tmp ?_ rfl)
    simp only [x_upd,reduceIte]
  obtain ⟨⟨sa,_⟩,⟨sb,_⟩,ha,hb⟩:=small20 (by simpa using hc)
  have hd:=Hd a b sa sb
  have hi:=Hi a (diffV a b) (runOk_diff ha hb (sa.mono (by omega)) (sb.mono (by omega))) (diff_ok sb) (fun _=>by rw [run_diff ha hb];exact sb.mono (by omega))
  rw [invV,run_diff ha hb,if_pos rfl] at hi
  have hp:=Hp b (invL b a) (runOk_inv hb ha (sb.mono (by omega)) (sa.mono (by omega))) (inv_ok sa)
  rw [apply_inv hb ha] at hp
  have hE:=He a a
  rw [decide_eq_true rfl] at hE
  simp only [apA,iv2,vwA,Vw.ds,List.map_cons,List.map_nil] at hd hi hp hE
  simp only [xq,reduceIte,qE,qA,qL,qD]
  refine W_seq (W_drw (by simp) ?_);simp only [xq,reduceIte,qE,qA,qL,qD,Vw.ds,List.replicate_zero,List.append_nil]
  refine c_fn (hd) rfl ?_;simp only [xq,reduceIte,qE,qA,qL,qD,Vw.ds]
  refine c_fn (hi) rfl ?_;simp only [xq,reduceIte,qE,qA,qL,qD,Vw.ds]
  refine W_seq (W_reg ?_);simp only [xq,reduceIte,qE,qA,qL,qD,Vw.ds]
  refine c_fn (hp) rfl ?_;simp only [xq,reduceIte,qE,qA,qL,qD,Vw.ds]
  refine W_seq (W_reg ?_);simp only [xq,reduceIte,qE,qA,qL,qD,decide_true,Vw.ds]
  refine c_fn (hE) rfl ?_;simp only [xq,reduceIte,qE,qA,qL,qD]
  refine c_fn (Ha) rfl ?_;simp only [xq,reduceIte,qE,qA,qL,qD]
  refine W_ret (.tmp ?_ rfl)
  simp only [x_upd,reduceIte]
end Go.Proofs.YtigfbnglplbbpaaDoor.Nx
