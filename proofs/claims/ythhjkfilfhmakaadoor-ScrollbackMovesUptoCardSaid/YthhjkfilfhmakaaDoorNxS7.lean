import Derived.Test.YthhjkfilfhmakaaDoorNxS6
set_option linter.unusedSimpArgs false
set_option linter.unusedVariables false
set_option linter.unnecessarySimpa false
namespace Go.Proofs.YthhjkfilfhmakaaDoor.Nx
open Go
variable {P:Program} {N:Nat} {Γ:Tabs}
theorem lineA_in {b:List (List Ce)} {i:Nat} (hi:i<b.length):lineA b i = .tup [.d (.sl eCe (ceRows (b[b.length-1-i]'(by omega)))),.int 0]:=by
  have h:(0:Int)≤(i:Int)∧(i:Int)<b.length:=by omega
  simp only [lineA,lineR,lineE,if_pos h,Int.toNat_natCast]
  rw [List.getD_eq_getElem?_getD,List.getElem?_eq_getElem (show b.length-1-i<b.length by omega)];rfl
end Go.Proofs.YthhjkfilfhmakaaDoor.Nx
