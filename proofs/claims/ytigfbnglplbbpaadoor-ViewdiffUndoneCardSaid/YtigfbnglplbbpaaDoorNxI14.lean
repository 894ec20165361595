import Derived.Test.YtigfbnglplbbpaaDoorNxE30
import Derived.Test.YtigfbnglplbbpaaDoorNxI8
set_option linter.unusedSimpArgs false
set_option linter.unusedVariables false
set_option linter.unnecessarySimpa false
namespace Go.Proofs.YtigfbnglplbbpaaDoor.Nx
open Go Go.Lib Go.Proofs Go.Shelf
variable {P:Program} {Γ:Tabs}
def extVV (fA:FuncId) (R:Vw→Vw→A) (f:FuncId) (args:List A):Option A :=
  if f=fA then match args with
    | [x,y]=>match vwOf x,vwOf y with
      | some v,some u=>if (greatV v||greatV u)=false then some (R v u) else none
      | _,_=>none
    | _=>none
  else none
theorem extVV_ok {fA:FuncId} {R:Vw→Vw→A} (H:∀ v u,greatV v=false→greatV u=false→FnP Γ P fA [vwA v,vwA u] (R v u)):∀ f args r,extVV fA R f args=some r→FnP Γ P f args r:=by
  intro f args r h
  unfold extVV at h
  split at h
  · rename_i hf;subst hf
    split at h
    · split at h
      · rename_i v u hv hu
        split at h
        · rename_i hg
          cases h
          rw [vwOf_ok hv,vwOf_ok hu]
          rw [Bool.or_eq_false_iff] at hg
          exact H v u hg.1 hg.2
        · cases h
      · cases h
    · cases h
  · cases h
end Go.Proofs.YtigfbnglplbbpaaDoor.Nx
