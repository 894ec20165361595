import Derived.Test.YtlllnjhgjijnkaaGreatDoorNxB0
import Derived.Test.YtlllnjhgjijnkaaGreatDoorNxEval
import Derived.Test.YtlllnjhgjijnkaaGreatDoorNxFn
import Derived.Below
import Derived.Test.YtlllnjhgjijnkaaGreatDoorNxE21
import Derived.Test.YtlllnjhgjijnkaaGreatDoorNxK3
import Derived.Test.YtlllnjhgjijnkaaGreatDoorNxP15a
set_option linter.all false
namespace Go.Proofs.YtlllnjhgjijnkaaGreatDoor.Nx
open Go Go.RowKit
def txt(l:List ByteArray):List UInt8:=l.flatMap fun s=>s.data.toList
end Go.Proofs.YtlllnjhgjijnkaaGreatDoor.Nx
namespace Go.Proofs.YtlllnjhgjijnkaaGreatDoor.Nx
open Go Go.Lib Go.Proofs Go.Shelf
variable {P:Program}{Γ:dP}
theorem aGE{rn:Ren}{f:FuncId}{Δ:Ctx}(L:Lays8.n4 P rn)(hf:rn.f 4=f)(he:sI P f)(hi:Lq P (rn.t 25) dW=true)(n:Nat)(hl:n≤100000)(h:cM):FnD Δ P f [.nil,.int n] h (.ref h.length 0 0 0 true) (h++[.cells dW []]):=by
 rcases Nat.eq_zero_or_pos n with rfl | hn
 ·exact((aGC (Γ:=Δ.t) L hf he).lend aIi (.cons (.same rfl) (.cons (.same rfl) .nil))).nil0 (by decide)
 ·exact aIO L hf he hi (by decide) (by decide) n hn hl h
end Go.Proofs.YtlllnjhgjijnkaaGreatDoor.Nx
