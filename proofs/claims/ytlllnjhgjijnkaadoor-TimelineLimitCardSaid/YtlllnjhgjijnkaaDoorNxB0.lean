import Derived.Test.YtlllnjhgjijnkaaDoorNxD15
import Derived.Test.YtlllnjhgjijnkaaDoorNxWalk
set_option linter.unusedSimpArgs false
set_option linter.unusedVariables false
set_option linter.unnecessarySimpa false
namespace Go.Proofs.YtlllnjhgjijnkaaDoor.Nx
open Go
structure Ce where
 text:ByteArray
 width:Int
 fore:Int
 back:Int
 flags:Int
abbrev eCe:Elt:=⟨5,48⟩
def Ce.row (c:Ce):List D:=[.sc (.string c.text),.sc (.int .i64 c.width),.sc (.int .i64 c.fore),.sc (.int .i64 c.back),.sc (.int .i64 c.flags)]
def ceRows (l:List Ce):List (List D):=l.map Ce.row
end Go.Proofs.YtlllnjhgjijnkaaDoor.Nx
namespace Go.Proofs.YtlllnjhgjijnkaaDoor.Nx
open Go
variable {P:Program} {N:Nat} {Γ:Tabs}
deriving instance DecidableEq for Ce
abbrev eRw:Elt:=⟨1,24⟩
def crRows (l:List (List Ce)):List (List D):=l.map fun r=>[.sl eCe (ceRows r)]
end Go.Proofs.YtlllnjhgjijnkaaDoor.Nx
