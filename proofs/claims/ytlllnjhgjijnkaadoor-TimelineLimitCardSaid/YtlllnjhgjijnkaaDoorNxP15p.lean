import Derived.Test.YtlllnjhgjijnkaaDoorNxP15n
import Derived.Test.YtlllnjhgjijnkaaDoorNxP15k
import Derived.Test.YtlllnjhgjijnkaaDoorNxP15a
set_option linter.unusedSimpArgs false
set_option linter.unusedVariables false
set_option linter.unnecessarySimpa false
namespace Go.Proofs.YtlllnjhgjijnkaaDoor.Nx
open Go
variable {P:Program} {N:Nat} {Γ:Tabs}
theorem widthN_take (l:List Gl) (n:Nat):widthN (l.take n)≤widthN l:=by
 conv=>rhs;rw [← List.take_append_drop n l,widthN_app]
 omega
theorem trim_ends (l:List Gl):endsBlank (trimGl l)=false:=by
 cases hk:(trimGl l).length with
 | zero =>
  have:trimGl l=[]:=List.eq_nil_of_length_eq_zero hk
  rw [this];rfl
 | succ k =>
  rw [endsBlank_at hk]
  refine decide_eq_false fun he=>?_
  have h1:l[k]? ≠ some spaceGl:=trimN_last l l.length k (by rw [← trimGl_len];exact hk)
  have hkl:k<(trimGl l).length:=by omega
  have h2:(trimGl l)[k]? = l[k]? := by rw [trimGl,List.getElem?_take,if_pos (by rw [← trimGl_len];omega)]
  rw [← h2,List.getElem?_eq_getElem hkl,he] at h1
  exact h1 rfl
end Go.Proofs.YtlllnjhgjijnkaaDoor.Nx
