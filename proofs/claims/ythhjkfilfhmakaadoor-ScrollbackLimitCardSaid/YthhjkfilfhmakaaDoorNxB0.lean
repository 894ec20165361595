/- Cells. -/
import Derived.Test.YthhjkfilfhmakaaDoorNxD15
import Derived.Test.YthhjkfilfhmakaaDoorNxWalk
import Derived.Test.YthhjkfilfhmakaaDoorNxWalk
namespace Go.Proofs.YthhjkfilfhmakaaDoor.Nx
set_option linter.unusedSimpArgs false
set_option linter.unusedVariables false
set_option linter.unnecessarySimpa false
open Go

structure Ce where
  text : ByteArray
  width : Int
  fore : Int
  back : Int
  flags : Int
abbrev eCe : Elt := ⟨5, 48⟩
def Ce.row (c : Ce) : List D := [.sc (.string c.text), .sc (.int .i64 c.width), .sc (.int .i64 c.fore), .sc (.int .i64 c.back), .sc (.int .i64 c.flags)]
def ceRows (l : List Ce) : List (List D) := l.map Ce.row
theorem ceRows_get {l : List Ce} {i : Nat} (hi : i < l.length) : (ceRows l).getD i [] = l[i].row := by
  rw [List.getD_eq_getElem?_getD, ceRows, List.getElem?_map, List.getElem?_eq_getElem hi]; rfl

end Go.Proofs.YthhjkfilfhmakaaDoor.Nx
