import Derived.Test.YthhjkfilfhmakaaDoorNxB0
set_option linter.unusedSimpArgs false
set_option linter.unusedVariables false
set_option linter.unnecessarySimpa false
open Nat renaming reduceEqDiff → qE, reduceAdd → qA, reduceLT → qL, reduceLeDiff → qD
namespace Go.Proofs.YthhjkfilfhmakaaDoor.Nx
open Go
variable {P:Program} {N:Nat} {Γ:Tabs}
theorem sameRows_fn {f fs:FuncId} (H:FnIs P f N [.t 4] (x_ref08_SameRows fs)) (hN:2≤N) (Hs:∀ a b:List Ce,FnP Γ P fs [.d (.sl eCe (ceRows a)),.d (.sl eCe (ceRows b))] (.bool (decide (a=b)))) (a b:List (List Ce)) :
    FnP Γ P f [.d (.sl eRw (crRows a)),.d (.sl eRw (crRows b))] (.bool (decide (a=b))):=by
  refine .of_W H (by simpa using hN) (W_sl 0 rfl fun ⟨_,hroom,_⟩=>?_)
  have hlr:a.length≤room:=le_of_mul (by rw [crRows_len] at hroom;exact hroom)
  unfold x_ref08_SameRows
  refine W_seq (W_reg ?_)
  simp only [xq,reduceIte,qE,qA,qL,qD]
  refine W_seq (W_seq (W_reg ?_))
  simp only [xq,reduceIte,qE,qA,qL,qD,crRows_len]
  refine W_cond rfl (fun hc=>?_) (fun hc=>W_skip ?_)
  · refine W_seq (W_reg ?_)
    simp only [xq,reduceIte,qE,qA,qL,qD]
    have hne:a≠b:=by rintro rfl;simp at hc
    refine W_ret (.tmp ?_ rfl)
    simp [x_upd,hne]
  · have hlen:a.length=b.length:=by simp at hc;omega
    simp only [xq,reduceIte,qE,qA,qL,qD]
    refine W_seq (W_seq (W_reg ?_))
    simp only [xq,reduceIte,qE,qA,qL,qD]
    refine W_block ?_
    let S:Nat→St:=fun i=>⟨look [(0,.d (.sl eRw (crRows a))),(1,.d (.sl eRw (crRows b))),(5,.int i)],[]⟩
    refine W_co (s':=S 0) (Co.keep _ (by simp [x_upd,x_look])) ?_
    refine W_loop (fun m s=>∃ i,i≤a.length∧m=a.length-i∧s=S i∧a.take i=b.take i) ⟨0,Nat.zero_le _,rfl,rfl,by simp⟩ ?_
    rintro m s ⟨i,hi,rfl,rfl,hpre⟩
    refine W_seq (W_seq (W_reg ?_))
    simp only [xq,reduceIte,qE,qA,qL,qD,S,crRows_len]
    refine W_cond rfl (fun hc=>W_skip ?_) (fun hc=>W_exit ?_)
    · have hlt:i<a.length:=by simpa using hc
      have hltb:i<b.length:=by omega
      simp only [xq,reduceIte,qE,qA,qL,qD]
      refine W_seq (W_block (W_seq (W_drw (by simp) ?_)))
      simp only [xq,reduceIte,qE,qA,qL,qD,crRows_get hlt,crRows_get hltb,crRows_len]
      refine ⟨by omega,by omega,by omega,by omega,?_⟩
      refine c_fn (Hs _ _) rfl ?_
      simp only [xq,reduceIte,qE,qA,qL,qD]
      refine W_cond rfl (fun hd=>?_) (fun hd=>W_skip ?_)
      · refine W_seq (W_reg ?_)
        simp only [xq,reduceIte,qE,qA,qL,qD]
        have hne:a≠b:=by
          rintro rfl
          simp at hd
        refine W_ret ?_
        simp only [xq,reduceIte,qE,qA,qL,qD]
        refine .tmp ?_ rfl
        simp [x_upd,hne]
      · have he:a[i]=b[i]:=by simpa using hd
        simp only [xq,reduceIte,qE,qA,qL,qD]
        refine W_reg ?_
        simp only [xq,reduceIte,qE,qA,qL,qD]
        refine ⟨a.length-(i+1),S (i+1),by omega,Co.keep _ ?_,i+1,hlt,rfl,rfl,take_eq_succ hlt hltb hpre he⟩
        simp [x_upd,x_look,i64_succ hlt hlr]
    · have hle:i=a.length:=by simp at hc;omega
      have heq:a=b:=by
        subst hle
        rw [List.take_length,hlen,List.take_length] at hpre
        exact hpre
      simp only [xq,reduceIte,qE,qA,qL,qD]
      refine W_seq (W_reg ?_)
      simp only [xq,reduceIte,qE,qA,qL,qD]
      refine W_ret (.tmp ?_ rfl)
      simp [x_upd,heq]
end Go.Proofs.YthhjkfilfhmakaaDoor.Nx
