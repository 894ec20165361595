import Derived.Test.YthhjkfilfhmakaaDoorNxS10
import Derived.Test.YthhjkfilfhmakaaDoorNxG13
import Derived.Test.YthhjkfilfhmakaaDoorNxDL
set_option linter.unusedSimpArgs false
set_option linter.unusedVariables false
set_option linter.unnecessarySimpa false
open Int renaming toNat_natCast → zQ
open Nat renaming reduceEqDiff → qE, reduceAdd → qA, reduceLT → qL, reduceLeDiff → qD
namespace Go.Proofs.YthhjkfilfhmakaaDoor.Nx
open Go
variable {P:Program} {N:Nat} {Γ:Tabs}
def properB (b:List (List Ce)):Bool:=(b.all fun r=>decide (checkR r=0)) && !great12 b
theorem proper12_fn {f fc fg:FuncId} (H:FnIs P f N [.t 2] (x_law12_proper fc fg)) (hN:1≤N) (b:List (List Ce)) (Hc:∀ r∈b,FnP Γ P fc [.d (.sl eCe (ceRows r))] (.int (checkR r))) (Hg:GreatOk Γ P fg) :
    FnP Γ P f [.d (.sl eRw (crRows b))] (.bool (properB b)):=by
  refine .of_W H (by simpa using hN) (W_sl 0 rfl fun ⟨_,hroom,_⟩=>?_)
  have hlr:b.length≤room:=le_of_mul (by rw [crRows_len] at hroom;exact hroom)
  unfold x_law12_proper
  refine W_seq (W_reg ?_);simp only [xq,reduceIte,qE,qA,qL,qD]
  refine W_seq (W_seq ?_)
  refine W_reg ?_;simp only [xq,reduceIte,qE,qA,qL,qD,crRows_len]
  refine W_block ?_
  let S:Nat→St:=fun i=>⟨look [(0,.d (.sl eRw (crRows b))),(5,.d (.sl eRw (crRows b))),(6,.int b.length),(7,.int i)],[]⟩
  refine W_co (s':=S 0) (Co.keep _ (by simp [x_upd,x_look])) ?_
  refine W_loop (fun m s=>∃ i,i≤b.length∧m=b.length-i∧s=S i∧∀ j (hj:j<b.length),j<i→checkR b[j]=0) ⟨0,Nat.zero_le _,rfl,rfl,fun j hj h=>absurd h (Nat.not_lt_zero _)⟩ ?_
  rintro m s ⟨i,hi,rfl,rfl,hok⟩
  simp only [S]
  refine W_seq (W_reg ?_);simp only [xq,reduceIte,qE,qA,qL,qD]
  refine W_seq ?_
  refine W_cond rfl (fun hc=>W_skip ?_) (fun hc=>W_exit ?_)
  · have hlt:i<b.length:=by simpa using hc
    have w1:IntKind.i64.wrap ((i:Int)+1)=((i+1:Nat):Int):=i64_nat (by simp only [room] at hlr ⊢; omega)
    have hgk:(crRows b).getD i []=[.sl eCe (ceRows b[i])]:=crRows_get hlt
    have k1:(0:Int)≤(i:Int):=by omega
    have k2:(i:Int)<(b.length:Int):=by omega
    have hC:=Hc _ (List.getElem_mem hlt)
    simp only [xq,reduceIte,qE,qA,qL,qD]
    refine W_seq (W_block ?_)
    refine W_seq (W_reg ?_);simp only [xq,reduceIte,qE,qA,qL,qD,crRows_len,k1,k2,hgk,zQ]
    refine W_seq (W_reg ?_);simp only [xq,reduceIte,qE,qA,qL,qD]
    refine c_fn (hC) rfl ?_;simp only [xq,reduceIte,qE,qA,qL,qD]
    refine W_cond rfl (fun hd=>?_) (fun hd=>W_skip ?_)
    · have hne:checkR b[i]≠0:=by simpa using hd
      have hp:properB b=false:=by
        simp only [properB,Bool.and_eq_false_iff]
        left
        rw [List.all_eq_false]
        exact ⟨b[i],List.getElem_mem hlt,by simpa using hne⟩
      rw [hp]
      refine W_seq (W_reg ?_);simp only [xq,reduceIte,qE,qA,qL,qD]
      refine W_ret (.tmp ?_ rfl)
      simp only [x_upd,reduceIte]
    · have h0:checkR b[i]=0:=by simpa using hd
      refine W_reg ?_;simp only [xq,reduceIte,qE,qA,qL,qD,w1]
      refine ⟨b.length-(i+1),S (i+1),by omega,Co.keep _ (by simp [x_upd,x_look]),i+1,hlt,rfl,rfl,fun j hj h=>?_⟩
      rcases Nat.lt_succ_iff_lt_or_eq.1 h with h | rfl
      · exact hok j hj h
      · exact h0
  · have hle:i=b.length:=by simp at hc;omega
    subst hle
    have hall:(b.all fun r=>decide (checkR r=0))=true:=by
      rw [List.all_eq_true]
      intro r hr
      obtain ⟨j,hj,rfl⟩:=List.getElem_of_mem hr
      exact decide_eq_true (hok j hj hj)
    have hG:=Hg b
    simp only [xq,reduceIte,qE,qA,qL,qD]
    refine W_seq (W_reg ?_);simp only [xq,reduceIte,qE,qA,qL,qD]
    refine c_fn (hG) rfl ?_;simp only [xq,reduceIte,qE,qA,qL,qD]
    refine W_ret (.tmp ?_ rfl)
    simp only [x_upd,reduceIte,properB,hall,Bool.true_and]
    cases great12 b<;>rfl
theorem winV_proper {b:List (List Ce)} {g:Gd} {k:Nat} (hg:gridCk g=0) (hb:∀ r∈b,checkR r=0) (hk:k≤b.length) :
    winV b g k=(⟨g.w,g.h,winL b g.rows k (fun r=>fitR (checkR r) r g.w) g.rows.length⟩,0):=by
  rw [winV_of hg ⟨by omega,by omega⟩ (fun i hi=>?_),zQ]
  rw [zQ,winOk]
  by_cases h:i<k
  · rw [hb _ ((winRow_mem hk hi).1 h)];simp
  · simp [h]
theorem winL_zero {b rows:List (List Ce)} {fit:List Ce→List Ce}:winL b rows 0 fit rows.length=rows:=by
  apply List.ext_getElem
  · rw [winL_len]
  · intro i h1 h2
    simp only [winL,List.getElem_map,List.getElem_range,winOut,winRow,Nat.not_lt_zero,if_false,Nat.sub_zero]
    rw [List.getD_eq_getElem?_getD,List.getElem?_eq_getElem h2];rfl
theorem winL_next {b rows:List (List Ce)} {fit:List Ce→List Ce} {k n:Nat} (hk:k<b.length):(winL b rows (k+1) fit (n+1)).drop 1=(winL b rows k fit (n+1)).take n∧(winL b rows (k+1) fit (n+1))[0]? = some (fit (b.getD (b.length-1-k) [])):=by
  constructor
  · apply List.ext_getElem
    · simp [winL]
    · intro i h1 h2
      simp only [winL,List.getElem_drop,List.getElem_take,List.getElem_map,List.getElem_range,winOut,winRow]
      by_cases h:i<k
      · rw [if_pos (by omega),if_pos (by omega),if_pos h,if_pos h,show b.length-(k+1)+(1+i)=b.length-k+i by omega]
      · rw [if_neg (by omega),if_neg (by omega),if_neg h,if_neg h,show 1+i-(k+1)=i-k by omega]
  · simp only [winL,List.getElem?_map,List.getElem?_range (Nat.succ_pos n),Option.map_some,winOut,winRow,Nat.succ_pos,if_true,Nat.add_zero,show b.length-(k+1)=b.length-1-k by omega]
end Go.Proofs.YthhjkfilfhmakaaDoor.Nx
