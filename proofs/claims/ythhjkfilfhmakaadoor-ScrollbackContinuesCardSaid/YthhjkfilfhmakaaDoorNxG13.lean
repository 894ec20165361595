import Derived.Test.YthhjkfilfhmakaaDoorNxG11
set_option linter.unusedSimpArgs false
set_option linter.unusedVariables false
set_option linter.unnecessarySimpa false
namespace Go.Proofs.YthhjkfilfhmakaaDoor.Nx
open Go
variable {P:Program} {N:Nat} {Γ:Tabs}
theorem rowsCk_of {w:Int}:∀ {l:List (List Ce)},(∀ r∈l,(r.length:Int)=w∧checkR r=0)→rowsCk w l=0
  | [],_=>rfl
  | a::l,h=>by
    obtain ⟨h1,h2⟩:=h a (List.mem_cons_self ..)
    rw [rowsCk,if_pos h1,if_pos h2]
    exact rowsCk_of fun r hr=>h r (List.mem_cons_of_mem _ hr)
theorem gridCk_sz {g:Gd} (h:gridCk g=0):szOk g.w g.h=true:=by
  simp only [gridCk] at h
  split at h
  · assumption
  · omega
theorem gridCk_of {g:Gd} (hs:szOk g.w g.h=true) (hl:(g.rows.length:Int)=g.h) (hr:∀ r∈g.rows,(r.length:Int)=g.w∧checkR r=0):gridCk g=0:=by
  unfold gridCk
  rw [if_pos hs,if_pos hl]
  exact rowsCk_of hr
theorem clamp_up {L m:Nat} (h:m≤L):clampBy (L:Int) (m:Int)=m:=by simp only [clampBy];omega
theorem scrollR_up {w h b:Int} {A M C:List (List Ce)} {m t bt:Nat} (hck:gridCk ⟨w,h,A++M++C⟩=0) (ht:t=A.length) (hbt:bt=A.length+M.length) (hM:1≤M.length) (hm:m≤M.length) :
    scrollR ⟨w,h,A++M++C⟩ t bt m b=(⟨w,h,A++(M.drop m++List.replicate m (blankRow w b))++C⟩,M.take m,0):=by
  have hh:=(gridCk_h hck).1
  have hl:(A++M++C).length=A.length+M.length+C.length:=by simp only [List.length_append]
  dsimp only at hh
  rw [hl] at hh
  subst ht hbt
  have e1:((A.length+M.length:Nat):Int)-(A.length:Int)=(M.length:Int):=by omega
  simp only [scrollR,hck,ne_eq,not_true_eq_false,if_false,e1,Int.toNat_natCast,clamp_up hm]
  rw [if_neg (by omega)]
  have d1:List.drop A.length (A++M++C)=M++C:=by rw [List.append_assoc,List.drop_left]
  have d2:List.drop (A.length+M.length) (A++M++C)=C:=by rw [← List.drop_drop,d1,List.drop_left]
  have d3:List.drop (A.length+m) (A++M++C)=M.drop m++C:=by rw [← List.drop_drop,d1,List.drop_append_of_le_length hm]
  have d4:List.take A.length (A++M++C)=A:=by rw [List.append_assoc,List.take_left]
  simp only [scrollMv,scrollOut,if_pos (show (0:Int)≤(m:Int) by omega),Int.toNat_natCast,d1,d2,d3,d4]
  rw [List.take_append_of_le_length (by simp),List.take_of_length_le (by simp),List.take_append_of_le_length hm]
theorem gridCk_mid {w h b:Int} {A M M' C:List (List Ce)} (hck:gridCk ⟨w,h,A++M++C⟩=0) (hl:M'.length=M.length) (hM:∀ r∈M',r∈M∨r=blankRow w b):gridCk ⟨w,h,A++M'++C⟩=0:=by
  have h1:=gridCk_h hck
  have h2:=gridCk_rows hck
  have h3:=gridCk_sz hck
  dsimp only at h1 h2 h3
  refine gridCk_of h3 (by have:=h1.1;simp only [List.length_append] at this ⊢; omega) fun r hr=>?_
  simp only [List.mem_append] at hr h2
  rcases hr with (hr | hr) | hr
  · exact h2 r (.inl (.inl hr))
  · rcases hM r hr with hr | rfl
    · exact h2 r (.inl (.inr hr))
    · exact blankRow_ck h1.2.2.1 h1.2.2.2
  · exact h2 r (.inr hr)
end Go.Proofs.YthhjkfilfhmakaaDoor.Nx
namespace Go.Proofs.YthhjkfilfhmakaaDoor.Nx
open Go
variable {P:Program} {N:Nat} {Γ:Tabs}
abbrev RightOk (Γ:Tabs) (P:Program) (f:FuncId):Prop:=∀ g:Gd,FnP Γ P f [gdA g] (.int (if rightG g then 1 else 0))
theorem rightG_ok {g:Gd} (h:rightG g=true):gridCk g=0∧g.small∧g.rows.length≤10:=by
  simp only [rightG,Bool.not_eq_true',Bool.or_eq_false_iff,decide_eq_false_iff_not,Decidable.not_not] at h
  have:=great10_small h.1
  exact ⟨h.2,this.2,this.1⟩
end Go.Proofs.YthhjkfilfhmakaaDoor.Nx
