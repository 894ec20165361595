import Derived.Test.YtlllnjhgjijnkaaDoorNxB0
import Derived.Test.YtlllnjhgjijnkaaDoorNxC1
import Derived.Test.YtlllnjhgjijnkaaDoorNxP15k
set_option linter.unusedSimpArgs false
set_option linter.unusedVariables false
set_option linter.unnecessarySimpa false
namespace Go.Proofs.YtlllnjhgjijnkaaDoor.Nx
open Go
variable {P:Program} {N:Nat} {Γ:Tabs}
structure Tm where
 w:Int
 h:Int
 rows:List (List Ce)
 x3:D
 x4:D
 x5:D
 row:Int
 col:Int
 x8:D
 q:List D
 vis:Bool
 qt:List D
 hl:q.length=33
 hd:q.drop 18 = .sc (.bool vis)::qt
def Tm.ds (t:Tm):List D:=.sc (.int .i64 t.w) :: .sc (.int .i64 t.h) :: .sl eRw (crRows t.rows)::t.x3::t.x4::t.x5 :: .sc (.int .i64 t.row) :: .sc (.int .i64 t.col)::t.x8::t.q
end Go.Proofs.YtlllnjhgjijnkaaDoor.Nx
