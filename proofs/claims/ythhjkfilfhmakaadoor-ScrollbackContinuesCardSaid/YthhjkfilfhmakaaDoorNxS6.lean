import Derived.Test.YthhjkfilfhmakaaDoorNxS1
set_option linter.unusedSimpArgs false
set_option linter.unusedVariables false
set_option linter.unnecessarySimpa false
namespace Go.Proofs.YthhjkfilfhmakaaDoor.Nx
open Go
variable {P:Program} {N:Nat} {Γ:Tabs}
theorem great12_small {l:List (List Ce)} (h:great12 l=false):l.length≤12∧∀ r∈l,r.length≤140∧∀ c∈r,c.text.size≤40:=by
  simp only [great12,Bool.or_eq_false_iff,decide_eq_false_iff_not] at h
  refine ⟨by omega,fun r hr=>?_⟩
  have:=List.any_eq_false.1 h.2 r hr
  simp only [greatC,Bool.or_eq_true,decide_eq_true_eq,not_or,Bool.not_eq_true,List.any_eq_false] at this
  refine ⟨by omega,fun c hc=>?_⟩
  have:=this.2 c hc
  omega
theorem lastN_all {l:List (List Ce)} {n:Int} (h:(l.length:Int)≤n):lastN l n=l:=by
  simp only [lastN]
  rw [show l.length-n.toNat=0 by omega,List.drop_zero]
abbrev PushOk (Γ:Tabs) (P:Program) (f:FuncId):Prop:=∀ b l:List (List Ce),b.length≤10000→l.length≤10000→FnP Γ P f [.d (.sl eRw (crRows b)),.d (.sl eRw (crRows l))] (.d (.sl eRw (crRows (lastN (b++l) 500))))
abbrev TrimOk (Γ:Tabs) (P:Program) (f:FuncId):Prop:=∀ l:List (List Ce),l.length≤100000→∀ n:Int,(-9223372036854775808≤n∧n≤9223372036854775807)→FnP Γ P f [.d (.sl eRw (crRows l)),.int n] (.d (.sl eRw (crRows (lastN l n))))
abbrev GreatOk (Γ:Tabs) (P:Program) (f:FuncId):Prop:=∀ l:List (List Ce),FnP Γ P f [.d (.sl eRw (crRows l))] (.int (if great12 l then 1 else 0))
end Go.Proofs.YthhjkfilfhmakaaDoor.Nx
