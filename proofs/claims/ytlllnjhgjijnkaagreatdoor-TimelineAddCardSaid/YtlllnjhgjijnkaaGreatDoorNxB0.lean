import Derived.Test.YtlllnjhgjijnkaaGreatDoorNxD15
import Derived.Test.YtlllnjhgjijnkaaGreatDoorNxWalk
set_option linter.all false
namespace Go.Proofs.YtlllnjhgjijnkaaGreatDoor.Nx
open Go
section
structure Ce where
 text:ByteArray
 width:Int
 fore:Int
 back:Int
 flags:Int
abbrev eCe:Elt:=⟨5,48⟩
def Ce.row(c:Ce):List D:=[.sc (.string c.text),.sc (.int .i64 c.width),.sc (.int .i64 c.fore),.sc (.int .i64 c.back),.sc (.int .i64 c.flags)]
def aNq(l:List Ce):List (List D):=l.map Ce.row
end
section
variable {P:Program}{N:Nat}{Γ:dP}
deriving instance DecidableEq for Ce
abbrev eW:Elt:=⟨1,24⟩
def aIw(l:List (List Ce)):List (List D):=l.map fun r=>[.sl eCe (aNq r)]
theorem aAh{e:Elt}{rows:List (List D)}{k:Nat}:HB.under k (.cells e (rows.map fun r=>r.map A.d)):=by
 intro r hr x hx;obtain⟨r',_,rfl⟩:=List.mem_map.1 hr;obtain⟨d,_,rfl⟩:=List.mem_map.1 hx;rfl
end
section
def xV(w h:Int):Bool:=((decide (1≤w)&&decide (w≤132))&&decide (1≤h))&&decide (h≤60)
structure Gd where
 w:Int
 h:Int
 rows:List (List Ce)
def Gd.ds(g:Gd):List D:=[.sc (.int .i64 g.w),.sc (.int .i64 g.h),.sl eW (aIw g.rows)]
end
end Go.Proofs.YtlllnjhgjijnkaaGreatDoor.Nx
