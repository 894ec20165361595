import Derived.Test.YtknmhbbmopnfjaaDoorNxE21
set_option linter.unusedSimpArgs false
set_option linter.unusedVariables false
set_option linter.unnecessarySimpa false
namespace Go.Proofs.YtknmhbbmopnfjaaDoor.Nx
open Go
variable {P:Program} {N:Nat} {Γ:Tabs}
theorem rows_few (v:Vw) (l:List Cg):(applyV v l).1.rows.length≤1000:=by
  have he:=applyV_ends v l
  by_cases h:(applyV v l).2.2=0
  · obtain ⟨_,_,h3⟩:=he.1 h
    have e:=(viewC_zero.1 h3).1
    have:=e.len
    have:=szOk_iff.1 e.sz
    omega
  · rw [(he.2 h).1];simp [zeroV]
abbrev RowsOk (Γ:Tabs) (P:Program) (f:FuncId):Prop:=∀ (v:Vw) (l:List Cg),RunOk v l→(∀ c∈l,CgOk c)→FnP Γ P f [vwA v,cgsA l] (insA (rowsV v l))
end Go.Proofs.YtknmhbbmopnfjaaDoor.Nx
