import Derived.Test.YtlllnjhgjijnkaaGreatDoorNxB0
import Derived.Test.YtlllnjhgjijnkaaGreatDoorNxC1
import Derived.Test.YtlllnjhgjijnkaaGreatDoorNxP15k
import Derived.Test.YtlllnjhgjijnkaaGreatDoorNxP15a
set_option linter.all false
namespace Go.Proofs.YtlllnjhgjijnkaaGreatDoor.Nx
open Go
section
variable {P:Program}{N:Nat}{Γ:dP}
structure Tm where
 w:Int
 h:Int
 rows:List (List Ce)
 x3:D
 x4:D
 x5:D
 row:Int
 col:Int
 x8:D
 q:List D
 vis:Bool
 qt:List D
 hl:q.length=33
 hd:q.drop 18 = .sc (.bool vis)::qt
def Tm.ds(t:Tm):List D:=.sc (.int .i64 t.w) :: .sc (.int .i64 t.h) :: .sl eW (aIw t.rows)::t.x3::t.x4::t.x5 :: .sc (.int .i64 t.row) :: .sc (.int .i64 t.col)::t.x8::t.q
end
section
variable {P:Program}{N:Nat}{Γ:dP}
theorem Sa{h:cM}:FrzA 0 h (.agg [.int 0,.int 0,.nil,.int 0,.int 0,.bool false]) (fF lA):=by
 refine .agg rfl fun j y hj=>?_;rcases j with _ | _ | _ | _ | _ | _ | j
 ·cases hj;exact .same rfl
 ·cases hj;exact .same rfl
 ·cases hj;exact .d (.nil _)
 ·cases hj;exact .same rfl
 ·cases hj;exact .same rfl
 ·cases hj;exact .same rfl
 ·simp[lA,Vw.ds] at hj
end
section
variable {P:Program}{N:Nat}{Γ:dP}
theorem aBP(l:List Gl)(n:Nat):dG (l.take n)≤dG l:=by
 conv=>rhs;rw[← List.take_append_drop n l,Gr]
 omega
theorem Yc(l:List Gl):eN (dE l)=false:=by
 cases hk:(dE l).length with
 | zero =>
  have:dE l=[]:=List.eq_nil_of_length_eq_zero hk;rw[this];rfl
 | succ k =>
  rw[tR hk];refine decide_eq_false fun he=>?_;have h1:l[k]? ≠ some eL:=Gq l l.length k (by rw[← uS];exact hk);have hkl:k<(dE l).length:=by omega
  have h2:(dE l)[k]? = l[k]? := by rw[dE,List.getElem?_take,if_pos (by rw[← uS];omega)]
  rw[← h2,List.getElem?_eq_getElem hkl,he] at h1;exact h1 rfl
end
end Go.Proofs.YtlllnjhgjijnkaaGreatDoor.Nx
