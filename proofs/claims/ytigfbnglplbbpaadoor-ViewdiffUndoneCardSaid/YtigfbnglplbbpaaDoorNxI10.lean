import Derived.Test.YtigfbnglplbbpaaDoorNxI8
set_option linter.unusedSimpArgs false
set_option linter.unusedVariables false
set_option linter.unnecessarySimpa false
open Bool renaming true_eq_false → zE
open List renaming map_cons → zU, map_nil → zV
open Nat renaming reduceEqDiff → qE, reduceAdd → qA, reduceLT → qL, reduceLeDiff → qD
namespace Go.Proofs.YtigfbnglplbbpaaDoor.Nx
open Go
variable {P:Program} {N:Nat} {Γ:Tabs}
def smallV (a b:Vw):Bool:=((!greatV a && !greatV b)&&decide (viewC a=0))&&decide (viewC b=0)
abbrev SmallOk (Γ:Tabs) (P:Program) (f:FuncId):Prop:=∀ a b:Vw,FnP Γ P f [vwA a,vwA b] (.bool (smallV a b))
theorem small20 {a b:Vw} (h:smallV a b=true):(Sm a 140∧a.rows.length≤12)∧(Sm b 140∧b.rows.length≤12)∧viewC a=0∧viewC b=0:=by
  simp only [smallV,Bool.and_eq_true,Bool.not_eq_true',decide_eq_true_eq] at h
  exact ⟨greatV_sm h.1.1.1,greatV_sm h.1.1.2,h.1.2,h.2⟩
set_option maxHeartbeats 1000000 in
theorem small20_fn {f fg fc:FuncId} (H:FnIs P f N [.t 4] (x_law20_small fg fc)) (hN:2≤N) (Hg:∀ v:Vw,FnP Γ P fg [vwA v] (.bool (greatV v))) (Hc:VchkOk Γ P fc):SmallOk Γ P f:=by
  intro a b
  refine .of_W H (by simpa using hN) ?_
  have hga:=Hg a
  have hgb:=Hg b
  unfold x_law20_small
  simp only [vwA,Vw.ds,zU,zV] at hga hgb ⊢
  refine W_seq (W_reg ?_);simp only [xq,reduceIte,qE,qA,qL,qD]
  refine W_sreg fun K hK=>?_
  have fin:∀ (sl:Nat→A) (h:Heap),sl 4 = .bool (smallV a b)→K ⟨sl,h⟩:=fun sl h h4=>hK _ (W_ret (.tmp h4 rfl))
  clear hK
  have hs:smallV a b=(((!greatV a && !greatV b)&&decide (viewC a=0))&&decide (viewC b=0)):=rfl
  rw [hs] at fin
  refine run_take 4 fun K1 hK1=>?_
  simp only [xq,reduceIte,qE,qA,qL,qD]
  refine c_fn (hga) rfl ?_;simp only [xq,reduceIte,qE,qA,qL,qD]
  refine hK1 _ ?_
  clear hK1 K1
  cases ga:greatV a
  · have hca:=Hc a ((greatV_sm ga).1.mono (by omega))
    simp only [vwA,Vw.ds,zU,zV] at hca
    rw [ga] at fin
    refine run_take 5 fun K1 hK1=>?_
    simp only [xq,reduceIte,qE,qA,qL,qD]
    refine c_fn (hgb) rfl ?_;simp only [xq,reduceIte,qE,qA,qL,qD]
    refine hK1 _ ?_
    clear hK1 K1
    cases gb:greatV b
    · have hcb:=Hc b ((greatV_sm gb).1.mono (by omega))
      simp only [vwA,Vw.ds,zU,zV] at hcb
      rw [gb] at fin
      refine run_take 5 fun K1 hK1=>?_
      simp only [xq,reduceIte,qE,qA,qL,qD]
      refine c_fn (hca) rfl ?_;simp only [xq,reduceIte,qE,qA,qL,qD]
      refine hK1 _ ?_
      clear hK1 K1
      cases gc:decide (viewC a=0)
      · rw [gc] at fin
        simp only [xq,reduceIte,qE,qA,qL,qD,undefA,zE]
        exact fin _ _ rfl
      · rw [gc] at fin
        simp only [xq,reduceIte,qE,qA,qL,qD,undefA,zE]
        refine c_fn (hcb) rfl ?_;simp only [xq,reduceIte,qE,qA,qL,qD]
        exact fin _ _ rfl
    · rw [gb] at fin
      simp only [xq,reduceIte,qE,qA,qL,qD,undefA,zE]
      exact fin _ _ rfl
  · rw [ga] at fin
    simp only [xq,reduceIte,qE,qA,qL,qD,undefA,zE]
    exact fin _ _ rfl
abbrev IntsOk (Γ:Tabs) (P:Program) (f:FuncId):Prop:=∀ a b:List Nat,FnP Γ P f [insA a,insA b] (.bool (decide (a=b)))
end Go.Proofs.YtigfbnglplbbpaaDoor.Nx
