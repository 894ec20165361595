import Derived.Test.YtlllnjhgjijnkaaDoorNxJ11
set_option linter.unusedSimpArgs false
set_option linter.unusedVariables false
set_option linter.unnecessarySimpa false
open List renaming mem_cons_self → zW, mem_cons_of_mem → zZ
namespace Go.Proofs.YtlllnjhgjijnkaaDoor.Nx
open Go
variable {P:Program} {N:Nat} {Γ:Tabs}
theorem bstep_mem {m0 m x:Mom} {ins:List Mom} (h:x∈bstep m0 ins m):x∈ins∨x=m:=by
 unfold bstep at h
 split at h
 ·exact .inl h
 ·split at h
  ·exact .inl h
  ·split at h
   ·exact .inl h
   ·split at h
    ·exact .inl h
    ·rcases List.mem_append.1 h with h | h
     ·exact .inl h
     ·exact .inr (List.mem_singleton.1 h)
theorem buildM_mem:∀ {l:List Mom} {m0 x:Mom} {ins:List Mom},x∈buildM m0 ins l→x∈ins∨x∈l
 | [],_,_,_,h=>.inl h
 | m::l,m0,x,ins,h=>by
  rcases buildM_mem (l:=l) h with h | h
  ·rcases bstep_mem h with h | h
   ·exact .inl h
   ·subst h;exact .inr (zW ..)
  ·exact .inr (zZ _ h)
theorem buildR_ok {l:List Mom} {r:Tl × List Mom × Bool} (h:buildR l=r) :
  r.2.2=false∨∃ m0 ins,r=(tlOf 0 m0 ins,m0::ins,true)∧MomsOk m0 ins∧ins.length≤7∧∀ x∈m0::ins,Sm x.view 140:=by
 cases l with
 | nil=>subst h;exact .inl rfl
 | cons m0 rs =>
  rw [buildR] at h
  split at h
  ·subst h;exact .inl rfl
  ·rename_i hc
   refine .inr ⟨m0,buildM m0 [] rs,h.symm,?_,?_,?_⟩
   ·refine buildM_ok ⟨?_,?_,?_⟩
    ·rcases Decidable.em (viewC m0.view=0) with h | h
     ·exact h
     ·exact absurd (.inr (.inl h)) hc
    ·rcases Int.lt_or_le m0.time 0 with h | h
     ·exact absurd (.inr (.inr (.inl h))) hc
     ·exact h
    ·rcases Int.lt_or_le maxT m0.time with h | h
     ·exact absurd (.inr (.inr (.inr h))) hc
     ·exact h
   ·have hf:fineM (m0::rs)=true:=by
     cases hq:fineM (m0::rs)
     ·exact absurd (.inl hq) hc
     ·rfl
    have h1:=(fineM_sm hf).1
    have h2:=buildM_len (l:=rs) (m0:=m0) (ins:=[])
    simp only [List.length_cons,List.length_nil] at h1 h2
    omega
   ·have hf:fineM (m0::rs)=true:=by
     cases hq:fineM (m0::rs)
     ·exact absurd (.inl hq) hc
     ·rfl
    intro x hx
    refine (fineM_sm hf).2 x ?_
    rcases List.mem_cons.1 hx with rfl | hx
    ·exact zW ..
    ·rcases buildM_mem hx with hx | hx
     ·simp at hx
     ·exact zZ _ hx
theorem tlOf_first {f:Int} {m:Mom} {l:List Mom}:(tlOf f m l).first=f:=rfl
end Go.Proofs.YtlllnjhgjijnkaaDoor.Nx
