import Derived.Test.YthhjkfilfhmakaaDoorNxG4
import Derived.Test.YthhjkfilfhmakaaDoorNxQ3
set_option linter.unusedSimpArgs false
set_option linter.unusedVariables false
set_option linter.unnecessarySimpa false
namespace Go.Proofs.YthhjkfilfhmakaaDoor.Nx
open Go
variable {P:Program} {N:Nat} {Γ:Tabs}
theorem gridCk_pos {g:Gd} (h:gridCk g=0):1≤g.rows.length:=by
  have h2:=gridCk_h h
  simp only [gridCk] at h
  split at h
  · rename_i hs
    have:=szOk_le hs
    omega
  · omega
end Go.Proofs.YthhjkfilfhmakaaDoor.Nx
