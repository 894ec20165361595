import Derived.Test.YtlllnjhgjijnkaaGreatDoorNxP15a
set_option linter.all false
open List renaming getElem?_eq_getElem → zB
open Nat renaming zero_le → zI
open Nat renaming reduceEqDiff → qE, reduceAdd → qA, reduceLT → qL, reduceLeDiff → qD
open List renaming forall_mem_cons → aA, take_add_one → aC, length_cons → aD, not_mem_nil → aE
open Option renaming toList_some → aB
namespace Go.Proofs.YtlllnjhgjijnkaaGreatDoor.Nx
open Go
variable {P:Program}{N:Nat}{Γ:dP}
def gw(g:Gl):Nat:=if g.wide then 2 else 1
def dG:List Gl→Nat
 | []=>0
 | g::l=>gw g+dG l
theorem Gr:∀ (a b:List Gl),dG (a++b)=dG a+dG b
 | [],b=>by simp[dG]
 | g::a,b=>by simp only[List.cons_append,dG,Gr a b];omega
theorem Ef:∀ l:List Gl,l.length≤dG l∧dG l≤2 * l.length
 | []=>by simp[dG]
 | g::l=>by
  have:=Ef l;simp only[dG,gw,aD];split<;>omega
theorem Nt{l:List Gl}{i:Nat}(hi:i<l.length):dG (l.take (i+1))=dG (l.take i)+gw l[i]:=by
 rw[aC,zB hi,aB,Gr];simp[dG]
def Fm(l:List Gl):Nat:=(l.filter (·.wide)).length
theorem aDF{l:List Gl}{i:Nat}(hi:i<l.length):Fm (l.take (i+1))=Fm (l.take i)+(if l[i].wide then 1 else 0):=by
 simp only[Fm];rw[aC,zB hi];simp only[aB,List.filter_append,List.length_append];cases h:l[i].wide<;>simp[h]
theorem Nu:∀ l:List Gl,l.length+Fm l=dG l
 | []=>rfl
 | g::l=>by
  have:=Nu l;simp only[Fm] at this ⊢;simp only[dG,gw,List.filter_cons,aD];cases g.wide<;>simp<;>omega
theorem aIy{f:FuncId}(H:FnIs P f N [.t 2] Ao)(hN:1≤N)(l:List Gl):FnP Γ P f [.d (.sl dW (cP l))] (.int (dG l)):=by
 refine .of_W H (by simpa using hN) (xR 0 rfl fun⟨_,dT,_⟩=>?_);have vI:l.length≤dL:=fI (by rw[cR] at dT;exact dT);have aA2:=vI;simp only[dL] at aA2;unfold Ao;refine wR ?_;simp only[xq,reduceIte,qE,qA,qL,qD];refine wR ?_;simp only[xq,reduceIte,qE,qA,qL,qD,cR];refine cN (wR ?_);simp only[xq,reduceIte,qE,qA,qL,qD,cR];refine cS ?_;let S:Nat→St:=fun i=>⟨dB [(3,.int ((l.length+Fm (l.take i):Nat):Int)),(8,.d (.sl dW (cP l))),(9,.int l.length),(10,.int i)],[]⟩;refine dX (s':=S 0) (Co.keep _ (by simp[cJ,cK,Fm])) ?_;refine dN (fun m s=>∃ i,i≤l.length∧m=l.length-i∧s=S i) ⟨0,zI _,rfl,rfl⟩ ?_;rintro m s ⟨i,hi,rfl,rfl⟩;have hwl:Fm (l.take i)≤l.length:=Nat.le_trans (List.length_filter_le ..) (by simp;omega);refine wR ?_;simp only[xq,reduceIte,qE,qA,qL,qD,S];refine cN (cL rfl (fun hc=>cQ ?_) (fun hc=>dJ ?_))
 ·have cY:i<l.length:=by simpa using hc
  simp only[xq,reduceIte,qE,qA,qL,qD];refine cN (cS (wR ?_));simp only[xq,reduceIte,qE,qA,qL,qD,eS cY,Gl.row,cR];refine⟨by omega,by omega,?_⟩;refine wR ?_;simp only[xq,reduceIte,qE,qA,qL,qD];have Gc:=aDF cY;have hw1:IntKind.i64.wrap (((l.length+Fm (l.take i):Nat):Int)+1)=((l.length+Fm (l.take i):Nat):Int)+1:=cX (by omega);refine cL rfl (fun hw=>cU ?_) (fun hw=>cQ ?_)
  ·simp only[xq,reduceIte,qE,qA,qL,qD];refine cU ?_;simp only[xq,reduceIte,qE,qA,qL,qD];refine⟨l.length-(i+1),S (i+1),by omega,?_,i+1,cY,rfl,rfl⟩;refine Co.to _ 0 ?_ (Nat.le_refl _) (zI _) (by simp);rw[hw,if_pos rfl] at Gc;simp only[aA,cJ,reduceIte,qE,cK,A.under,and_true,Gc,aE,false_imp_iff,implies_true,gB cY vI,hw1];simp[Nat.add_assoc,Int.add_assoc]
  ·simp only[xq,reduceIte,qE,qA,qL,qD];refine cU ?_;simp only[xq,reduceIte,qE,qA,qL,qD];refine⟨l.length-(i+1),S (i+1),by omega,?_,i+1,cY,rfl,rfl⟩;refine Co.to _ 0 ?_ (Nat.le_refl _) (zI _) (by simp);rw[hw] at Gc;simp only[aA,cJ,reduceIte,qE,cK,A.under,and_true,Gc,aE,false_imp_iff,implies_true,gB cY vI];simp
 ·have gZ:i=l.length:=by simp at hc;omega
  subst gZ;simp only[xq,reduceIte,qE,qA,qL,qD];refine wR ?_;simp only[xq,reduceIte,qE,qA,qL,qD];refine cT (.tmp ?_ rfl);simp only[cJ,reduceIte,List.take_length,Nu]
end Go.Proofs.YtlllnjhgjijnkaaGreatDoor.Nx
