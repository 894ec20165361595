import Derived.Test.YtigfbnglplbbpaaGreatDoorNxE21
set_option linter.unusedSimpArgs false
set_option linter.unusedVariables false
set_option linter.unnecessarySimpa false
namespace Go.Proofs.YtigfbnglplbbpaaGreatDoor.Nx
open Go
variable {P:Program} {N:Nat} {Γ:Tabs}
theorem under_vwB {v:Vw} {k:Nat}:HB.under k (vwB v):=by
 intro r hr x hx
 simp only [List.mem_cons,List.not_mem_nil,or_false] at hr
 subst hr
 obtain ⟨d,_,rfl⟩:=List.mem_map.1 hx;rfl
end Go.Proofs.YtigfbnglplbbpaaGreatDoor.Nx
