import Derived.Test.YthhjkfilfhmakaaDoorNxG4
set_option linter.unusedSimpArgs false
set_option linter.unusedVariables false
set_option linter.unnecessarySimpa false
namespace Go.Proofs.YthhjkfilfhmakaaDoor.Nx
open Go
variable {P:Program} {N:Nat} {Γ:Tabs}
theorem blankRow_len {w b:Int}:(blankRow w b).length≤132:=by
  unfold blankRow;split
  · simp
  · simp;omega
theorem blankRow_small {w b:Int}:∀ c∈blankRow w b,c.text.size≤1000:=by
  intro c hc
  unfold blankRow at hc
  split at hc
  · simp at hc
  · have:=List.eq_of_mem_replicate hc
    subst this
    show (1:Nat)≤1000
    decide
end Go.Proofs.YthhjkfilfhmakaaDoor.Nx
