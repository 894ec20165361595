import Derived.Test.YthhjkfilfhmakaaDoorNxS1
set_option linter.unusedSimpArgs false
set_option linter.unusedVariables false
set_option linter.unnecessarySimpa false
namespace Go.Proofs.YthhjkfilfhmakaaDoor.Nx
open Go
variable {P:Program} {N:Nat} {Γ:Tabs}
theorem great12_small {l:List (List Ce)} (h:great12 l=false):l.length≤12∧∀ r∈l,r.length≤140∧∀ c∈r,c.text.size≤40:=by
  simp only [great12,Bool.or_eq_false_iff,decide_eq_false_iff_not] at h
  refine ⟨by omega,fun r hr=>?_⟩
  have:=List.any_eq_false.1 h.2 r hr
  simp only [greatC,Bool.or_eq_true,decide_eq_true_eq,not_or,Bool.not_eq_true,List.any_eq_false] at this
  refine ⟨by omega,fun c hc=>?_⟩
  have:=this.2 c hc
  omega
abbrev SRowsOk (Γ:Tabs) (P:Program) (f:FuncId):Prop:=∀ a b:List (List Ce),FnP Γ P f [.d (.sl eRw (crRows a)),.d (.sl eRw (crRows b))] (.bool (decide (a=b)))
abbrev SCellsOk (Γ:Tabs) (P:Program) (f:FuncId):Prop:=∀ a b:List Ce,FnP Γ P f [.d (.sl eCe (ceRows a)),.d (.sl eCe (ceRows b))] (.bool (decide (a=b)))
abbrev LineOk (Γ:Tabs) (P:Program) (f:FuncId):Prop:=∀ b:List (List Ce),b.length≤100000→∀ back:Int,FnP Γ P f [.d (.sl eRw (crRows b)),.int back] (lineA b back)
abbrev GreatOk (Γ:Tabs) (P:Program) (f:FuncId):Prop:=∀ l:List (List Ce),FnP Γ P f [.d (.sl eRw (crRows l))] (.int (if great12 l then 1 else 0))
end Go.Proofs.YthhjkfilfhmakaaDoor.Nx
