import Derived.Test.YtlllnjhgjijnkaaDoorNxP15a
set_option linter.unusedSimpArgs false
set_option linter.unusedVariables false
set_option linter.unnecessarySimpa false
open List renaming getElem?_eq_getElem → zB
open Nat renaming zero_le → zI
open Nat renaming reduceEqDiff → qE, reduceAdd → qA, reduceLT → qL, reduceLeDiff → qD
namespace Go.Proofs.YtlllnjhgjijnkaaDoor.Nx
open Go
variable {P:Program} {N:Nat} {Γ:Tabs}
def gw (g:Gl):Nat:=if g.wide then 2 else 1
def widthN:List Gl→Nat
 | []=>0
 | g::l=>gw g+widthN l
theorem widthN_app:∀ (a b:List Gl),widthN (a++b)=widthN a+widthN b
 | [],b=>by simp [widthN]
 | g::a,b=>by simp only [List.cons_append,widthN,widthN_app a b];omega
theorem widthN_le:∀ l:List Gl,l.length≤widthN l∧widthN l≤2 * l.length
 | []=>by simp [widthN]
 | g::l=>by
  have:=widthN_le l
  simp only [widthN,gw,List.length_cons]
  split<;>omega
theorem widthN_succ {l:List Gl} {i:Nat} (hi:i<l.length):widthN (l.take (i+1))=widthN (l.take i)+gw l[i]:=by
 rw [List.take_add_one,zB hi,Option.toList_some,widthN_app]
 simp [widthN]
def wideN (l:List Gl):Nat:=(l.filter (·.wide)).length
theorem wideN_succ {l:List Gl} {i:Nat} (hi:i<l.length):wideN (l.take (i+1))=wideN (l.take i)+(if l[i].wide then 1 else 0):=by
 simp only [wideN]
 rw [List.take_add_one,zB hi]
 simp only [Option.toList_some,List.filter_append,List.length_append]
 cases h:l[i].wide<;>simp [h]
theorem wideN_width:∀ l:List Gl,l.length+wideN l=widthN l
 | []=>rfl
 | g::l=>by
  have:=wideN_width l
  simp only [wideN] at this ⊢
  simp only [widthN,gw,List.filter_cons,List.length_cons]
  cases g.wide<;>simp<;>omega
theorem width_fn {f:FuncId} (H:FnIs P f N [.t 2] x_view_Width) (hN:1≤N) (l:List Gl):FnP Γ P f [.d (.sl eGl (glRows l))] (.int (widthN l)):=by
 refine .of_W H (by simpa using hN) (W_sl 0 rfl fun ⟨_,hroom,_⟩=>?_)
 have hlr:l.length≤room:=le_of_mul (by rw [glRows_len] at hroom;exact hroom)
 have hlr':=hlr
 simp only [room] at hlr'
 unfold x_view_Width
 refine wR ?_
 simp only [xq,reduceIte,qE,qA,qL,qD]
 refine wR ?_
 simp only [xq,reduceIte,qE,qA,qL,qD,glRows_len]
 refine W_seq (wR ?_)
 simp only [xq,reduceIte,qE,qA,qL,qD,glRows_len]
 refine W_block ?_
 let S:Nat→St:=fun i=>⟨look [(3,.int ((l.length+wideN (l.take i):Nat):Int)),(8,.d (.sl eGl (glRows l))),(9,.int l.length),(10,.int i)],[]⟩
 refine W_co (s':=S 0) (Co.keep _ (by simp [x_upd,x_look,wideN])) ?_
 refine W_loop (fun m s=>∃ i,i≤l.length∧m=l.length-i∧s=S i) ⟨0,zI _,rfl,rfl⟩ ?_
 rintro m s ⟨i,hi,rfl,rfl⟩
 have hwl:wideN (l.take i)≤l.length:=Nat.le_trans (List.length_filter_le ..) (by simp;omega)
 refine wR ?_
 simp only [xq,reduceIte,qE,qA,qL,qD,S]
 refine W_seq (W_cond rfl (fun hc=>W_skip ?_) (fun hc=>W_exit ?_))
 ·have hlt:i<l.length:=by simpa using hc
  simp only [xq,reduceIte,qE,qA,qL,qD]
  refine W_seq (W_block (wR ?_))
  simp only [xq,reduceIte,qE,qA,qL,qD,glRows_get hlt,Gl.row,glRows_len]
  refine ⟨by omega,by omega,?_⟩
  refine wR ?_
  simp only [xq,reduceIte,qE,qA,qL,qD]
  have hsucc:=wideN_succ hlt
  have hw1:IntKind.i64.wrap (((l.length+wideN (l.take i):Nat):Int)+1)=((l.length+wideN (l.take i):Nat):Int)+1:=i64_of (by omega)
  refine W_cond rfl (fun hw=>W_reg ?_) (fun hw=>W_skip ?_)
  ·simp only [xq,reduceIte,qE,qA,qL,qD]
   refine W_reg ?_
   simp only [xq,reduceIte,qE,qA,qL,qD]
   refine ⟨l.length-(i+1),S (i+1),by omega,?_,i+1,hlt,rfl,rfl⟩
   refine Co.to _ 0 ?_ (Nat.le_refl _) (zI _) (by simp)
   rw [hw,if_pos rfl] at hsucc
   simp only [List.forall_mem_cons,x_upd,reduceIte,qE,x_look,A.under,and_true,hsucc,List.not_mem_nil,false_imp_iff,implies_true,i64_succ hlt hlr,hw1]
   simp [Nat.add_assoc,Int.add_assoc]
  ·simp only [xq,reduceIte,qE,qA,qL,qD]
   refine W_reg ?_
   simp only [xq,reduceIte,qE,qA,qL,qD]
   refine ⟨l.length-(i+1),S (i+1),by omega,?_,i+1,hlt,rfl,rfl⟩
   refine Co.to _ 0 ?_ (Nat.le_refl _) (zI _) (by simp)
   rw [hw] at hsucc
   simp only [List.forall_mem_cons,x_upd,reduceIte,qE,x_look,A.under,and_true,hsucc,List.not_mem_nil,false_imp_iff,implies_true,i64_succ hlt hlr]
   simp
 ·have hle:i=l.length:=by simp at hc;omega
  subst hle
  simp only [xq,reduceIte,qE,qA,qL,qD]
  refine wR ?_
  simp only [xq,reduceIte,qE,qA,qL,qD]
  refine W_ret (.tmp ?_ rfl)
  simp only [x_upd,reduceIte,List.take_length,wideN_width]
end Go.Proofs.YtlllnjhgjijnkaaDoor.Nx
