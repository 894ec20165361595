import Derived.Test.YthhjkfilfhmakaaDoorNxG11
set_option linter.unusedSimpArgs false
set_option linter.unusedVariables false
set_option linter.unnecessarySimpa false
namespace Go.Proofs.YthhjkfilfhmakaaDoor.Nx
open Go
variable {P:Program} {N:Nat} {Γ:Tabs}
abbrev RightOk (Γ:Tabs) (P:Program) (f:FuncId):Prop:=∀ g:Gd,FnP Γ P f [gdA g] (.int (if rightG g then 1 else 0))
theorem rightG_ok {g:Gd} (h:rightG g=true):gridCk g=0∧g.small∧g.rows.length≤10:=by
  simp only [rightG,Bool.not_eq_true',Bool.or_eq_false_iff,decide_eq_false_iff_not,Decidable.not_not] at h
  have:=great10_small h.1
  exact ⟨h.2,this.2,this.1⟩
end Go.Proofs.YthhjkfilfhmakaaDoor.Nx
