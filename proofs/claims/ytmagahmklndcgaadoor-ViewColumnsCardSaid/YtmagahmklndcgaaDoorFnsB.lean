/- Further functions of this program are those of the definitions. -/
import Derived.Test.YtmagahmklndcgaaDoorNxP15h
import Derived.Test.YtmagahmklndcgaaDoorRows
import Derived.KernelRfl
namespace Go.Proofs.YtmagahmklndcgaaDoor.Nx
set_option linter.unusedSimpArgs false
set_option linter.unusedVariables false
set_option linter.unnecessarySimpa false
open Go

theorem is_law15_ViewColumns : FnIs Tryd.prog 5 73 [.t 4] (x_law15_ViewColumns 17 13 20 21) := .of (by kernel_rfl)
theorem is_view_Width : FnIs Tryd.prog 21 20 [.t 2] x_view_Width := .of (by kernel_rfl)
end Go.Proofs.YtmagahmklndcgaaDoor.Nx
