import Derived.Test.YtigfbnglplbbpaaDoorNxB0
import Derived.Test.YtigfbnglplbbpaaDoorNxEval
import Derived.Test.YtigfbnglplbbpaaDoorNxFn
import Derived.Below
set_option linter.unusedSimpArgs false
set_option linter.unusedVariables false
set_option linter.unnecessarySimpa false
namespace Go.Proofs.YtigfbnglplbbpaaDoor.Nx
open Go Go.RowKit
def txt (l:List ByteArray):List UInt8:=l.flatMap fun s=>s.data.toList
end Go.Proofs.YtigfbnglplbbpaaDoor.Nx
