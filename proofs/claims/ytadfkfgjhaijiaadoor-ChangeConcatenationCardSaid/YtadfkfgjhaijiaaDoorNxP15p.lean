import Derived.Test.YtadfkfgjhaijiaaDoorNxP15n
import Derived.Test.YtadfkfgjhaijiaaDoorNxP15k
import Derived.Test.YtadfkfgjhaijiaaDoorNxP15a
set_option linter.unusedSimpArgs false
set_option linter.unusedVariables false
set_option linter.unnecessarySimpa false
namespace Go.Proofs.YtadfkfgjhaijiaaDoor.Nx
open Go
variable {P:Program} {N:Nat} {Γ:Tabs}
theorem frz_zero {h:Heap}:FrzA 0 h (.agg [.int 0,.int 0,.nil,.int 0,.int 0,.bool false]) (vwA zeroV):=by
  refine .agg rfl fun j y hj=>?_
  rcases j with _ | _ | _ | _ | _ | _ | j
  · cases hj;exact .same rfl
  · cases hj;exact .same rfl
  · cases hj;exact .d (.nil _)
  · cases hj;exact .same rfl
  · cases hj;exact .same rfl
  · cases hj;exact .same rfl
  · simp [zeroV,Vw.ds] at hj
end Go.Proofs.YtadfkfgjhaijiaaDoor.Nx
namespace Go.Proofs.YtadfkfgjhaijiaaDoor.Nx
open Go
variable {P:Program} {N:Nat} {Γ:Tabs}
theorem trim_ends (l:List Gl):endsBlank (trimGl l)=false:=by
  cases hk:(trimGl l).length with
  | zero =>
    have:trimGl l=[]:=List.eq_nil_of_length_eq_zero hk
    rw [this];rfl
  | succ k =>
    rw [endsBlank_at hk]
    refine decide_eq_false fun he=>?_
    have h1:l[k]? ≠ some spaceGl:=trimN_last l l.length k (by rw [← trimGl_len];exact hk)
    have hkl:k<(trimGl l).length:=by omega
    have h2:(trimGl l)[k]? = l[k]? := by rw [trimGl,List.getElem?_take,if_pos (by rw [← trimGl_len];omega)]
    rw [← h2,List.getElem?_eq_getElem hkl,he] at h1
    exact h1 rfl
end Go.Proofs.YtadfkfgjhaijiaaDoor.Nx
