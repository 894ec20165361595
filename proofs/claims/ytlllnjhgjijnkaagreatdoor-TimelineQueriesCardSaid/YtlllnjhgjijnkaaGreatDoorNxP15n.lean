import Derived.Test.YtlllnjhgjijnkaaGreatDoorNxB0
import Derived.Test.YtlllnjhgjijnkaaGreatDoorNxC1
import Derived.Test.YtlllnjhgjijnkaaGreatDoorNxP15k
import Derived.Test.YtlllnjhgjijnkaaGreatDoorNxP15a
set_option linter.unusedSimpArgs false
set_option linter.unusedVariables false
set_option linter.unnecessarySimpa false
namespace Go.Proofs.YtlllnjhgjijnkaaGreatDoor.Nx
open Go
section
variable {P:Program} {N:Nat} {Γ:Tabs}
structure Tm where
 w:Int
 h:Int
 rows:List (List Ce)
 x3:D
 x4:D
 x5:D
 row:Int
 col:Int
 x8:D
 q:List D
 vis:Bool
 qt:List D
 hl:q.length=33
 hd:q.drop 18 = .sc (.bool vis)::qt
def Tm.ds (t:Tm):List D:=.sc (.int .i64 t.w) :: .sc (.int .i64 t.h) :: .sl eRw (crRows t.rows)::t.x3::t.x4::t.x5 :: .sc (.int .i64 t.row) :: .sc (.int .i64 t.col)::t.x8::t.q
end
section
variable {P:Program} {N:Nat} {Γ:Tabs}
theorem frz_zero {h:Heap}:FrzA 0 h (.agg [.int 0,.int 0,.nil,.int 0,.int 0,.bool false]) (vwA zeroV):=by
 refine .agg rfl fun j y hj=>?_
 rcases j with _ | _ | _ | _ | _ | _ | j
 ·cases hj;exact .same rfl
 ·cases hj;exact .same rfl
 ·cases hj;exact .d (.nil _)
 ·cases hj;exact .same rfl
 ·cases hj;exact .same rfl
 ·cases hj;exact .same rfl
 ·simp [zeroV,Vw.ds] at hj
end
section
variable {P:Program} {N:Nat} {Γ:Tabs}
theorem widthN_take (l:List Gl) (n:Nat):widthN (l.take n)≤widthN l:=by
 conv=>rhs;rw [← List.take_append_drop n l,widthN_app]
 omega
theorem trim_ends (l:List Gl):endsBlank (trimGl l)=false:=by
 cases hk:(trimGl l).length with
 | zero =>
  have:trimGl l=[]:=List.eq_nil_of_length_eq_zero hk
  rw [this];rfl
 | succ k =>
  rw [endsBlank_at hk]
  refine decide_eq_false fun he=>?_
  have h1:l[k]? ≠ some spaceGl:=trimN_last l l.length k (by rw [← trimGl_len];exact hk)
  have hkl:k<(trimGl l).length:=by omega
  have h2:(trimGl l)[k]? = l[k]? := by rw [trimGl,List.getElem?_take,if_pos (by rw [← trimGl_len];omega)]
  rw [← h2,List.getElem?_eq_getElem hkl,he] at h1
  exact h1 rfl
end
end Go.Proofs.YtlllnjhgjijnkaaGreatDoor.Nx
