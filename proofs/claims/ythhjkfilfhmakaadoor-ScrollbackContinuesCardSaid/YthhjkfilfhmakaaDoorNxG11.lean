import Derived.Test.YthhjkfilfhmakaaDoorNxG7
import Derived.Test.YthhjkfilfhmakaaDoorNxQ3
set_option linter.unusedSimpArgs false
set_option linter.unusedVariables false
set_option linter.unnecessarySimpa false
namespace Go.Proofs.YthhjkfilfhmakaaDoor.Nx
open Go
variable {P:Program} {N:Nat} {Γ:Tabs}
theorem gridCk_pos {g:Gd} (h:gridCk g=0):1≤g.rows.length:=by
  have h2:=gridCk_h h
  simp only [gridCk] at h
  split at h
  · rename_i hs
    have:=szOk_le hs
    omega
  · omega
theorem rowsCk_each {w:Int}:∀ {l:List (List Ce)},rowsCk w l=0→∀ r∈l,(r.length:Int)=w∧checkR r=0
  | [],_,r,hr=>by simp at hr
  | a::l,h,r,hr=>by
    simp only [rowsCk] at h
    split at h
    · rename_i h1
      split at h
      · rename_i h2
        rcases List.mem_cons.1 hr with rfl | hr
        · exact ⟨h1,h2⟩
        · exact rowsCk_each h r hr
      · omega
    · cases h
theorem gridCk_rows {g:Gd} (h:gridCk g=0):∀ r∈g.rows,(r.length:Int)=g.w∧checkR r=0:=by
  simp only [gridCk] at h
  split at h
  · split at h
    · exact rowsCk_each h
    · omega
  · omega
end Go.Proofs.YthhjkfilfhmakaaDoor.Nx
