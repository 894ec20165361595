import Derived.Test.YtlllnjhgjijnkaaDoorNxE21
set_option linter.unusedSimpArgs false
set_option linter.unusedVariables false
set_option linter.unnecessarySimpa false
namespace Go.Proofs.YtlllnjhgjijnkaaDoor.Nx
open Go
variable {P:Program} {N:Nat} {Γ:Tabs}
abbrev RowSameOk (Γ:Tabs) (P:Program) (f:FuncId):Prop:=∀ a b:List Gl,FnP Γ P f [.d (.sl eGl (glRows a)),.d (.sl eGl (glRows b))] (.bool (decide (a=b)))
end Go.Proofs.YtlllnjhgjijnkaaDoor.Nx
