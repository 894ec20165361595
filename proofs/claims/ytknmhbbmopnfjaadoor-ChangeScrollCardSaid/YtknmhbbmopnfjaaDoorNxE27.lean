/- Layer 19: the law ChangeExchange. -/
import Derived.Test.YtknmhbbmopnfjaaDoorNxE24
namespace Go.Proofs.YtknmhbbmopnfjaaDoor.Nx
set_option linter.unusedSimpArgs false
set_option linter.unusedVariables false
set_option linter.unnecessarySimpa false
open Go

variable {P : Program} {N : Nat} {Γ : Tabs}

theorem chk_zero {v : Vw} {c : Cg} (h : chkV v c = 0) : viewC v = 0 ∧ chgC v c = 0 := by
  unfold chkV at h
  split at h
  · rename_i hv; exact ⟨hv, h⟩
  · cases h

end Go.Proofs.YtknmhbbmopnfjaaDoor.Nx
