import Derived.Test.YtigfbnglplbbpaaDoorNxI10
import Derived.Test.YtigfbnglplbbpaaDoorNxI15
import Derived.Test.YtigfbnglplbbpaaDoorNxDL
set_option linter.unusedSimpArgs false
set_option linter.unusedVariables false
set_option linter.unnecessarySimpa false
open Bool renaming true_eq_false → zE
open Nat renaming reduceEqDiff → qE, reduceAdd → qA, reduceLT → qL, reduceLeDiff → qD
namespace Go.Proofs.YtigfbnglplbbpaaDoor.Nx
open Go
variable {P:Program} {N:Nat} {Γ:Tabs}
set_option maxHeartbeats 1000000 in
theorem resultsLaw20_fn {f fg fl fa fc fc2 fr fr2 fi:FuncId} (H:FnIs P f N [.t 6] (x_law20_ViewdiffResults fg fl fa fc fc2 fr fr2 fi)) (hN:3≤N) (Hg:∀ v:Vw,FnP Γ P fg [vwA v] (.bool (greatV v))) (Hl:∀ l:List Cg,FnP Γ P fl [cgsA l] (.bool (greatL l))) (Ha:FnP Γ P fa [] (.bool true))
    (Hc:CostOk Γ P fc) (Hc2:CostOk Γ P fc2) (Hr:Rows20Ok Γ P fr) (Hr2:Rows20Ok Γ P fr2) (Hi:IntsOk Γ P fi) (l:List Cg) (a b:Vw) :
    FnP Γ P f [cgsA l,vwA a,vwA b] (.bool true):=by
  refine .of_W H (by simpa using hN) ?_
  have hga:=Hg a
  have hgb:=Hg b
  unfold x_law20_ViewdiffResults
  simp only [vwA,Vw.ds,List.map_cons,List.map_nil] at hga hgb ⊢
  refine W_seq (W_reg ?_);simp only [xq,reduceIte,qE,qA,qL,qD]
  refine W_seq ?_
  obtain ⟨g1,e1⟩:∃ g,g=(greatV a||greatV b):=⟨_,rfl⟩
  obtain ⟨g2,e2⟩:∃ g,g=(g1||greatL l):=⟨_,rfl⟩
  let S:Bool→St:=fun z=>⟨look [(0,cgsA l),(4,.ptr 0 1 0 0),(5,.ptr 1 1 0 0),(16,.bool z)],[vwB a,vwB b]⟩
  refine W_cut (· = S g2) (W_reg ?_) ?_
  · refine run_take 7 fun K1 hK1=>?_
    simp only [xq,reduceIte,qE,qA,qL,qD]
    refine c_fn hga rfl ?_
    simp only [xq,reduceIte,qE,qA,qL,qD]
    cases ga:greatV a
    · simp only [xq,reduceIte,qE,qA,qL,qD,undefA,zE]
      refine c_fn (hgb) rfl ?_;simp only [xq,reduceIte,qE,qA,qL,qD]
      rw [ga,Bool.false_or] at e1
      rw [← e1]
      refine hK1 _ ?_
      clear hK1 K1
      cases g1
      · simp only [xq,reduceIte,qE,qA,qL,qD,undefA,zE]
        refine c_fn (Hl l) rfl ?_;simp only [xq,reduceIte,qE,qA,qL,qD]
        exact ⟨_,Co.keep _ (by simp [x_upd,x_look,Vw.ds,e2]),rfl⟩
      · simp only [xq,reduceIte,qE,qA,qL,qD,undefA,zE]
        exact ⟨_,Co.keep _ (by simp [x_upd,x_look,Vw.ds,e2]),rfl⟩
    · rw [ga,Bool.true_or] at e1
      subst e1
      simp only [xq,reduceIte,qE,qA,qL,qD,undefA,zE]
      refine hK1 _ ?_
      clear hK1 K1
      simp only [xq,reduceIte,qE,qA,qL,qD,undefA,zE]
      exact ⟨_,Co.keep _ (by simp [x_upd,x_look,Vw.ds,e2]),rfl⟩
  rintro _ rfl
  simp only [S]
  refine W_cond rfl (fun hc=>?_) (fun hc=>W_skip ?_)
  · refine W_seq (W_reg ?_);simp only [xq,reduceIte,qE,qA,qL,qD]
    refine c_fn (Ha) rfl ?_;simp only [xq,reduceIte,qE,qA,qL,qD]
    refine W_ret (.tmp ?_ rfl)
    simp only [x_upd,reduceIte]
  rw [e2,e1,Bool.or_eq_false_iff,Bool.or_eq_false_iff] at hc
  obtain ⟨⟨h1,h2⟩,h3⟩:=hc
  obtain ⟨sa,ra⟩:=greatV_sm h1
  obtain ⟨sb,rb⟩:=greatV_sm h2
  obtain ⟨l1,l2⟩:=greatL_small h3
  have few:Few l:=⟨by omega,fun c hc=>by have:=(l2 c hc).ok.len;omega⟩
  have hr:=Hr a b (by omega) (by omega)
  have hr2:=Hr2 a b (by omega) (by omega)
  have hi:=Hi (rows20 a b) (rows20 a b)
  rw [decide_eq_true rfl] at hi
  simp only [vwA,Vw.ds,List.map_cons,List.map_nil] at hr hr2
  simp only [xq,reduceIte,qE,qA,qL,qD]
  refine W_seq (W_drw (by simp) ?_);simp only [xq,reduceIte,qE,qA,qL,qD,Vw.ds,List.replicate_zero,List.append_nil]
  refine c_fn (Hc l few) rfl ?_;simp only [xq,reduceIte,qE,qA,qL,qD]
  refine c_fn (Hc2 l few) rfl ?_;simp only [xq,reduceIte,qE,qA,qL,qD,decide_true,Vw.ds]
  refine c_fn (hr) rfl ?_;simp only [xq,reduceIte,qE,qA,qL,qD,Vw.ds]
  refine c_fn (hr2) rfl ?_;simp only [xq,reduceIte,qE,qA,qL,qD]
  refine c_fn (hi) rfl ?_;simp only [xq,reduceIte,qE,qA,qL,qD]
  refine c_fn (Ha) rfl ?_;simp only [xq,reduceIte,qE,qA,qL,qD]
  refine W_ret (.tmp ?_ rfl)
  simp only [x_upd,reduceIte]
end Go.Proofs.YtigfbnglplbbpaaDoor.Nx
