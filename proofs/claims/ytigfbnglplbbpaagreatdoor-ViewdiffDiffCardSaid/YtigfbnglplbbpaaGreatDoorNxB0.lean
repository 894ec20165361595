import Derived.Test.YtigfbnglplbbpaaGreatDoorNxD15
import Derived.Test.YtigfbnglplbbpaaGreatDoorNxWalk
set_option linter.unusedSimpArgs false
set_option linter.unusedVariables false
set_option linter.unnecessarySimpa false
namespace Go.Proofs.YtigfbnglplbbpaaGreatDoor.Nx
open Go
structure Ce where
 text:ByteArray
 width:Int
 fore:Int
 back:Int
 flags:Int
abbrev eCe:Elt:=⟨5,48⟩
def Ce.row (c:Ce):List D:=[.sc (.string c.text),.sc (.int .i64 c.width),.sc (.int .i64 c.fore),.sc (.int .i64 c.back),.sc (.int .i64 c.flags)]
def ceRows (l:List Ce):List (List D):=l.map Ce.row
end Go.Proofs.YtigfbnglplbbpaaGreatDoor.Nx
namespace Go.Proofs.YtigfbnglplbbpaaGreatDoor.Nx
open Go
variable {P:Program} {N:Nat} {Γ:Tabs}
deriving instance DecidableEq for Ce
abbrev eRw:Elt:=⟨1,24⟩
def crRows (l:List (List Ce)):List (List D):=l.map fun r=>[.sl eCe (ceRows r)]
theorem under_d {e:Elt} {rows:List (List D)} {k:Nat}:HB.under k (.cells e (rows.map fun r=>r.map A.d)):=by
 intro r hr x hx
 obtain ⟨r',_,rfl⟩:=List.mem_map.1 hr
 obtain ⟨d,_,rfl⟩:=List.mem_map.1 hx
 rfl
end Go.Proofs.YtigfbnglplbbpaaGreatDoor.Nx
