import Derived.Test.YtknmhbbmopnfjaaDoorNxE21
set_option linter.unusedSimpArgs false
set_option linter.unusedVariables false
set_option linter.unnecessarySimpa false
namespace Go.Proofs.YtknmhbbmopnfjaaDoor.Nx
open Go
variable {P:Program} {N:Nat} {Γ:Tabs}
theorem under_vwB {v:Vw} {k:Nat}:HB.under k (vwB v):=by
  intro r hr x hx
  simp only [List.mem_cons,List.not_mem_nil,or_false] at hr
  subst hr
  obtain ⟨d,_,rfl⟩:=List.mem_map.1 hx;rfl
theorem co_lit {sl:Nat→A} {h:Heap} {cs:List Cg} (hu:∀ B∈h,HB.under h.length B) (l:List (Nat × A)) (hl:∀ p∈l,(sl p.1=p.2∧p.2.under h.length=true)∨(sl p.1 = .ref h.length cs.length 0 cs.length true∧p.2=cgsA cs)):Co 0 ⟨sl,h++[cgLB cs]⟩ ⟨look l,h⟩:=by
  have:=Co.frz (n0:=0) (s:=⟨sl,h++[cgLB cs]⟩) l h.length (fun p hp=>?_) (Nat.zero_le _) (by simp) (by simpa using hu)
  · simpa using this
  · simp only
    rcases hl p hp with ⟨h1,h2⟩ | ⟨h1,h2⟩
    · rw [h1];exact .same h2
    · rw [h1,h2]
      have:=frzD_rows (k:=h.length) (id:=h.length) (off:=0) (len:=cs.length) (full:=true) (e:=eCg) (h:=h++[cgLB cs]) (rows:=cgRows cs) (Nat.le_refl _) hp_g0 (by rw [cgRows_len];omega)
      rw [cgRows_len,List.drop_zero,List.take_of_length_le (by rw [cgRows_len];exact Nat.le_refl _)] at this
      exact .d this
end Go.Proofs.YtknmhbbmopnfjaaDoor.Nx
