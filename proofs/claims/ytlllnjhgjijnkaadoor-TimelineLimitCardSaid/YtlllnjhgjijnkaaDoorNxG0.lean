import Derived.Test.YtlllnjhgjijnkaaDoorNxB0
set_option linter.unusedSimpArgs false
set_option linter.unusedVariables false
set_option linter.unnecessarySimpa false
namespace Go.Proofs.YtlllnjhgjijnkaaDoor.Nx
open Go
def szOk (w h:Int):Bool:=((decide (1≤w)&&decide (w≤132))&&decide (1≤h))&&decide (h≤60)
structure Gd where
 w:Int
 h:Int
 rows:List (List Ce)
def Gd.ds (g:Gd):List D:=[.sc (.int .i64 g.w),.sc (.int .i64 g.h),.sl eRw (crRows g.rows)]
end Go.Proofs.YtlllnjhgjijnkaaDoor.Nx
