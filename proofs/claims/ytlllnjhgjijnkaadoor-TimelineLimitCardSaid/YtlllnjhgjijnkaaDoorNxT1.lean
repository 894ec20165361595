import Derived.Test.YtlllnjhgjijnkaaDoorNxB0
import Derived.Test.YtlllnjhgjijnkaaDoorNxEval
import Derived.Test.YtlllnjhgjijnkaaDoorNxFn
import Derived.Below
import Derived.Test.YtlllnjhgjijnkaaDoorNxE21
import Derived.Test.YtlllnjhgjijnkaaDoorNxK3
import Derived.Test.YtlllnjhgjijnkaaDoorNxP15a
set_option linter.unusedSimpArgs false
set_option linter.unusedVariables false
set_option linter.unnecessarySimpa false
namespace Go.Proofs.YtlllnjhgjijnkaaDoor.Nx
open Go Go.RowKit
def txt (l:List ByteArray):List UInt8:=l.flatMap fun s=>s.data.toList
end Go.Proofs.YtlllnjhgjijnkaaDoor.Nx
namespace Go.Proofs.YtlllnjhgjijnkaaDoor.Nx
open Go Go.Lib Go.Proofs Go.Shelf
variable {P:Program} {Γ:Tabs}
theorem growGl_fn {rn:Ren} {f:FuncId} {Δ:Ctx} (L:Lays8.n4 P rn) (hf:rn.f 4=f) (he:Enters P f) (hi:growInfoE P (rn.t 25) eGl=true) (n:Nat) (hl:n≤100000) (h:Heap):FnD Δ P f [.nil,.int n] h (.ref h.length 0 0 0 true) (h++[.cells eGl []]):=by
 rcases Nat.eq_zero_or_pos n with rfl | hn
 ·exact ((growE0_fn (Γ:=Δ.t) L hf he).lend flat_nil (.cons (.same rfl) (.cons (.same rfl) .nil))).nil0 (by decide)
 ·exact growE_fn L hf he hi (by decide) (by decide) n hn hl h
end Go.Proofs.YtlllnjhgjijnkaaDoor.Nx
