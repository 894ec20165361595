import Derived.Test.YthhjkfilfhmakaaDoorNxS1
import Derived.Test.YthhjkfilfhmakaaDoorNxW8
import Derived.Test.YthhjkfilfhmakaaDoorNxS6
import Derived.Test.YthhjkfilfhmakaaDoorNxG11
set_option linter.unusedSimpArgs false
set_option linter.unusedVariables false
set_option linter.unnecessarySimpa false
open List renaming getElem?_eq_getElem → zB, getD_eq_getElem?_getD → zC
namespace Go.Proofs.YthhjkfilfhmakaaDoor.Nx
open Go
variable {P:Program} {N:Nat} {Γ:Tabs}
def winV (b:List (List Ce)) (g:Gd) (back:Int):Gd × Int:=winR b g back (gridCk g) checkR fun r=>fitR (checkR r) r g.w
abbrev WinOk (Γ:Tabs) (P:Program) (f:FuncId):Prop:=∀ (b:List (List Ce)) (g:Gd) (back:Int),b.length≤1000→smallL b→g.small→FnP Γ P f [.d (.sl eRw (crRows b)),gdA g,.int back] (gdE (winV b g back))
theorem winRow_mem {b rows:List (List Ce)} {bk k:Nat} (hb:bk≤b.length) (hk:k<rows.length):(k<bk→winRow b rows bk k∈b)∧(¬ k<bk→winRow b rows bk k∈rows):=by
  constructor
  · intro h
    rw [winRow,if_pos h,zC,zB (show b.length-bk+k<b.length by omega)]
    exact List.getElem_mem _
  · intro h
    rw [winRow,if_neg h,zC,zB (show k-bk<rows.length by omega)]
    exact List.getElem_mem _
theorem winV_of {b:List (List Ce)} {g:Gd} {back:Int} (hg:gridCk g=0) (hb:0≤back∧back≤b.length) (hk:∀ k,k<g.rows.length→winOk b g.rows back.toNat checkR k=true) :
    winV b g back=(⟨g.w,g.h,winL b g.rows back.toNat (fun r=>fitR (checkR r) r g.w) g.rows.length⟩,0):=by
  unfold winV winR
  rw [if_neg (by simpa using hg),if_neg (by omega)]
  have hf:((List.range g.rows.length).find? fun k => !winOk b g.rows back.toNat checkR k)=none:=by
    rw [List.find?_eq_none]
    intro k hk2
    simp [hk k (List.mem_range.1 hk2)]
  rw [hf]
end Go.Proofs.YthhjkfilfhmakaaDoor.Nx
