import Derived.Test.YthhjkfilfhmakaaDoorNxG0
import Derived.Test.YthhjkfilfhmakaaDoorNxQ3
import Derived.Test.YthhjkfilfhmakaaDoorNxD15
set_option linter.unusedSimpArgs false
set_option linter.unusedVariables false
set_option linter.unnecessarySimpa false
namespace Go.Proofs.YthhjkfilfhmakaaDoor.Nx
open Go
variable {P:Program} {N:Nat} {Γ:Tabs}
def smallL (l:List (List Ce)):Prop:=∀ r∈l,r.length≤1000∧∀ c∈r,c.text.size≤1000
def Gd.small (g:Gd):Prop:=smallL g.rows
instance {l:List (List Ce)}:Decidable (smallL l):=by unfold smallL;infer_instance
instance {g:Gd}:Decidable g.small:=by unfold Gd.small;infer_instance
theorem great10_small {l:List (List Ce)} (h:great10 l=false):l.length≤10∧smallL l:=by
  simp only [great10,Bool.or_eq_false_iff,decide_eq_false_iff_not] at h
  refine ⟨by omega,fun r hr=>?_⟩
  have h2:=List.any_eq_false.1 h.2 r hr
  have:=greatC_small (by simpa using h2)
  exact ⟨by omega,fun c hc=>by have:=this.2 c hc;omega⟩
abbrev ScrollOk (Γ:Tabs) (P:Program) (f:FuncId):Prop:=∀ g:Gd,g.small→∀ top bottom by_ a b c:Int,FnP Γ P f [gdA g,.int top,.int bottom,.int by_,atA a b c] (scrollA (scrollR g top bottom by_ b))
abbrev Great10Ok (Γ:Tabs) (P:Program) (f:FuncId):Prop:=∀ l:List (List Ce),FnP Γ P f [.d (.sl eRw (crRows l))] (.int (if great10 l then 1 else 0))
abbrev SameGOk (Γ:Tabs) (P:Program) (f:FuncId):Prop:=∀ x y:Gd,FnP Γ P f [gdA x,gdA y] (.bool (decide (x=y)))
abbrev SameLOk (Γ:Tabs) (P:Program) (f:FuncId):Prop:=∀ a b:List (List Ce),FnP Γ P f [.d (.sl eRw (crRows a)),.d (.sl eRw (crRows b))] (.bool (decide (a=b)))
abbrev GCheckOk (Γ:Tabs) (P:Program) (f:FuncId):Prop:=∀ g:Gd,g.small→FnP Γ P f [gdA g] (.int (gridCk g))
end Go.Proofs.YthhjkfilfhmakaaDoor.Nx
