import Derived.Test.YtlllnjhgjijnkaaGreatDoorNxB0
set_option linter.all false
open List renaming getElem?_eq_getElem → zB, take_length → zh
open Nat renaming le_refl → zL
open Nat renaming reduceEqDiff → qE, reduceAdd → qA, reduceLT → qL, reduceLeDiff → qD
open Int renaming natCast_zero → aA
namespace Go.Proofs.YtlllnjhgjijnkaaGreatDoor.Nx
open Go
section
variable {P:Program}{N:Nat}{Γ:dP}
structure Gl where
 text:ByteArray
 wide:Bool
 style:Int
abbrev dW:Elt:=⟨3,32⟩
def Gl.row(g:Gl):List D:=[.sc (.string g.text),.sc (.bool g.wide),.sc (.int .i64 g.style)]
def cP(l:List Gl):List (List D):=l.map Gl.row
theorem cR{l:List Gl}:(cP l).length=l.length:=by simp[cP]
theorem eS{l:List Gl}{i:Nat}(hi:i<l.length):(cP l).getD i []=l[i].row:=by
 rw[List.getD_eq_getElem?_getD,cP,List.getElem?_map,zB hi];rfl
def Np(g:Gl):A:=.agg (g.row.map .d)
def eL:Gl:=⟨⟨#[32]⟩,false,0⟩
theorem Rz{f:FuncId}(H:FnIs P f N [.c 0 3 true] pN):FnP Γ P f [] (Np eL):=by
 refine .of_W H (by simp) ?_;unfold pN;refine wR ?_;simp only[xq,reduceIte,qE,qA,qL,qD];refine wR ?_;simp only[xq,reduceIte,qE,qA,qL,qD];refine cT ⟨.inr rfl,?_⟩;simp only[dK,eH,cJ,xq,reduceIte,qE,qA,qL,qD,dI,if_true];exact .same rfl
theorem Jm{f:FuncId}(H:FnIs P f N [.t 2] fN)(hN:1≤N)(rows:List (List D)):FnP Γ P f [.d (.sl dW rows)] (.d (.sl dW rows)):=by
 refine .of_W H (by simpa using hN) (xR 0 rfl fun⟨hm,dT,_⟩=>?_);unfold fN;refine Xy 0 rfl (fun h0=>?_) ?_
 ·subst h0;refine wR ?_;simp only[xq,reduceIte,qE,qA,qL,qD];refine cN (wR ?_);simp only[xq,reduceIte,qE,qA,qL,qD,nG,xS];refine cL (t:=true) (by simp[ev,cJ]) (fun _=>?_) (fun h=>by cases h);refine wR ?_;simp only[xq,reduceIte,qE,qA,qL,qD];refine cT (.frz ?_);simp only[xq,reduceIte,qE,qA,qL,qD];exact .d (.nil _)
 ·refine wR ?_;simp only[xq,reduceIte,qE,qA,qL,qD];refine cN (wR ?_);simp only[xq,reduceIte,qE,qA,qL,qD,nG,xS];refine cL (t:=false) (by simp[ev,cJ]) (fun h=>by cases h) (fun _=>cQ ?_);simp only[xq,reduceIte,qE,qA,qL,qD];refine wR ?_;simp only[xq,reduceIte,qE,qA,qL,qD];refine⟨dT,hm,cT (.frz ?_)⟩;simp only[xq,reduceIte,qE,qA,qL,qD];have:=iJ (id:=0) (full:=true) (e:=dW) (h:=[HB.cells dW (rows.map fun r=>r.map .d)]) (rows:=rows) rfl;exact this
end
section
variable {P:Program}{N:Nat}{Γ:dP}
deriving instance DecidableEq for Gl
theorem Jn(x y:Gl):(decide (x.text=y.text)&&((x.wide == y.wide)&&(x.style == y.style)))=decide (x=y):=by
 cases x;cases y;rw[Bool.eq_iff_iff];simp
theorem Aw{f:FuncId}(H:FnIs P f N [.t 4] nH)(hN:2≤N)(a b:List Gl):FnP Γ P f [.d (.sl dW (cP a)),.d (.sl dW (cP b))] (.bool (decide (a=b))):=by
 refine .of_W H (by simpa using hN) (xR 0 rfl fun⟨_,dT,_⟩=>?_);have vI:a.length≤dL:=fI (by rw[cR] at dT;exact dT);unfold nH;refine wR ?_;simp only[xq,reduceIte,qE,qA,qL,qD];refine cN (wR ?_);simp only[xq,reduceIte,qE,qA,qL,qD,cR];refine cL rfl (fun hc=>?_) (fun hc=>cQ ?_)
 ·refine wR ?_;simp only[xq,reduceIte,qE,qA,qL,qD];have fM:a≠b:=by rintro rfl;simp at hc
  refine cT (.tmp ?_ rfl);simp[cJ,fM]
 ·have eG:a.length=b.length:=by simp at hc;omega
  simp only[xq,reduceIte,qE,qA,qL,qD];refine cN (wR ?_);simp only[xq,reduceIte,qE,qA,qL,qD];refine cS ?_;let S:Nat→St:=fun i=>⟨dB [(0,.d (.sl dW (cP a))),(1,.d (.sl dW (cP b))),(5,.int i)],[]⟩;refine dX (s':=S 0) (Co.keep _ (by simp[cJ,cK])) ?_;refine dN (fun m s=>∃ i,i≤a.length∧m=a.length-i∧s=S i∧a.take i=b.take i) ⟨0,Nat.zero_le _,rfl,rfl,by simp⟩ ?_;rintro m s ⟨i,hi,rfl,rfl,dZ⟩;refine cN (wR ?_);simp only[xq,reduceIte,qE,qA,qL,qD,cR,S];refine cL rfl (fun hc=>cQ ?_) (fun hc=>dJ ?_)
  ·have cY:i<a.length:=by simpa using hc
   have Dz:i<b.length:=by omega
   simp only[xq,reduceIte,qE,qA,qL,qD];refine cN (cS (cN (eD (by simp) ?_)));simp only[xq,reduceIte,qE,qA,qL,qD,eS cY,eS Dz,Gl.row,Jn,cR];refine⟨by omega,by omega,by omega,by omega,?_⟩;refine cL rfl (fun hd=>?_) (fun hd=>cQ ?_)
   ·refine wR ?_;simp only[xq,reduceIte,qE,qA,qL,qD];have fM:a≠b:=by
     rintro rfl;simp at hd
    refine cT ?_;simp only[xq,reduceIte,qE,qA,qL,qD];refine .tmp ?_ rfl;simp[cJ,fM]
   ·have he:a[i]=b[i]:=by simpa using hd
    simp only[xq,reduceIte,qE,qA,qL,qD];refine cU ?_;simp only[xq,reduceIte,qE,qA,qL,qD];refine⟨a.length-(i+1),S (i+1),by omega,Co.keep _ ?_,i+1,cY,rfl,rfl,pK cY Dz dZ he⟩;simp[cJ,cK,gB cY vI]
  ·have gZ:i=a.length:=by simp at hc;omega
   have heq:a=b:=by
    subst gZ;rw[zh,eG,zh] at dZ;exact dZ
   simp only[xq,reduceIte,qE,qA,qL,qD];refine wR ?_;simp only[xq,reduceIte,qE,qA,qL,qD];refine cT (.tmp ?_ rfl);simp[cJ,heq]
def iU(l:List Gl):Bool:=decide (140<l.length)||l.any fun g=>decide (40<g.text.size)
theorem Nq{f:FuncId}(H:FnIs P f N [.t 2] mC)(hN:1≤N)(l:List Gl):FnP Γ P f [.d (.sl dW (cP l))] (.bool (iU l)):=by
 refine .of_W H (by simpa using hN) (xR 0 rfl fun⟨_,dT,_⟩=>?_);have vI:l.length≤dL:=fI (by rw[cR] at dT;exact dT);unfold mC;refine wR ?_;simp only[xq,reduceIte,qE,qA,qL,qD];refine cN (wR ?_);simp only[xq,reduceIte,qE,qA,qL,qD,cR];refine cL rfl (fun hc=>?_) (fun hc=>cQ ?_)
 ·refine wR ?_;simp only[xq,reduceIte,qE,qA,qL,qD];have cY:140<l.length:=by simp at hc;omega
  refine cT (.tmp ?_ rfl);simp[cJ,iU,cY]
 ·have gZ:¬ 140<l.length:=by simp at hc;omega
  simp only[xq,reduceIte,qE,qA,qL,qD];refine cN (wR ?_);simp only[xq,reduceIte,qE,qA,qL,qD];refine cS ?_;let S:Nat→St:=fun i=>⟨dB [(0,.d (.sl dW (cP l))),(3,.int i)],[]⟩;refine dX (s':=S 0) (Co.keep _ (by simp[cJ,cK])) ?_;refine dN (fun m s=>∃ i,i≤l.length∧m=l.length-i∧s=S i∧(l.take i).any (fun g=>decide (40<g.text.size))=false) ⟨0,Nat.zero_le _,rfl,rfl,by simp⟩ ?_;rintro m s ⟨i,hi,rfl,rfl,dZ⟩;refine cN (wR ?_);simp only[xq,reduceIte,qE,qA,qL,qD,cR,S];refine cL rfl (fun hc=>cQ ?_) (fun hc=>dJ ?_)
  ·have cY:i<l.length:=by simpa using hc
   simp only[xq,reduceIte,qE,qA,qL,qD];refine cN (cS (wR ?_));simp only[xq,reduceIte,qE,qA,qL,qD,eS cY,Gl.row,cR];refine⟨by omega,by omega,?_⟩;refine cL rfl (fun hd=>?_) (fun hd=>cQ ?_)
   ·refine wR ?_;simp only[xq,reduceIte,qE,qA,qL,qD];refine cT ?_;simp only[xq,reduceIte,qE,qA,qL,qD];refine .tmp ?_ rfl;have aQH:40<l[i].text.size:=by simp at hd;omega
    have:iU l=true:=by
     simp only[iU,Bool.or_eq_true,List.any_eq_true];exact .inr ⟨l[i],List.getElem_mem cY,by simpa using aQH⟩
    simp[cJ,this]
   ·have he:decide (40<l[i].text.size)=false:=by simp at hd;simp;omega
    simp only[xq,reduceIte,qE,qA,qL,qD];refine cU ?_;simp only[xq,reduceIte,qE,qA,qL,qD];refine⟨l.length-(i+1),S (i+1),by omega,Co.keep _ ?_,i+1,cY,rfl,rfl,lF cY dZ he⟩;simp[cJ,cK,gB cY vI]
  ·have aQU:i=l.length:=by simp at hc;omega
   subst aQU;rw[zh] at dZ;simp only[xq,reduceIte,qE,qA,qL,qD];refine wR ?_;simp only[xq,reduceIte,qE,qA,qL,qD];refine cT (.tmp ?_ rfl);simp[cJ,iU,gZ,dZ]
def kC(l:List Gl):Nat→Nat
 | 0=>0
 | n+1=>if l[n]? = some eL then kC l n else n+1
def dE(l:List Gl):List Gl:=l.take (kC l l.length)
theorem xW(l:List Gl):∀ n,kC l n≤n
 | 0=>zL _
 | n+1=>by
  simp only[kC];split
  ·have:=xW l n;omega
  ·exact zL _
theorem jI{l:List Gl}{n:Nat}:(cP l).take n=cP (l.take n):=by simp[cP,List.map_take]
theorem aKV{f fb fc:FuncId}{Nb Nc:Nat}(H:FnIs P f N [.t 2] (Ct fb fc))(hN:1≤N)(Hb:FnIs P fb Nb [.c 0 3 true] pN)(Hc:FnIs P fc Nc [.t 2] fN)(hNc:1≤Nc)(l:List Gl) :
  FnP Γ P f [.d (.sl dW (cP l))] (.d (.sl dW (cP (dE l)))):=by
 refine .of_W H (by simpa using hN) (xR 0 rfl fun⟨_,dT,_⟩=>?_);have vI:l.length≤dL:=fI (by rw[cR] at dT;exact dT);unfold Ct;refine wR ?_;simp only[xq,reduceIte,qE,qA,qL,qD];refine wR ?_;simp only[xq,reduceIte,qE,qA,qL,qD,cR];refine cN (cS ?_);let S:Nat→St:=fun i=>⟨dB [(0,.d (.sl dW (cP l))),(3,.int i)],[]⟩;refine dX (s':=S l.length) (Co.keep _ (by simp[cJ,cK])) ?_;refine dN (fun m s=>m≤l.length∧s=S m∧kC l l.length=kC l m) ⟨zL _,rfl,rfl⟩ ?_;rintro m s ⟨hm,rfl,htr⟩;have fin:∀ (sl:Nat→A) (n:Nat),sl 0 = .d (.sl dW (cP l))→sl 3 = .int n→n=kC l l.length→W (dP.ctx Γ) P N none 0 (.seq (.reg [
  { dst:=some 19,op:=.mov (.t 0) },
  { dst:=some 20,op:=.mov (.t 3) },
  { dst:=some 21,op:=.slice ⟨3,32⟩ (.t 19) none (some (.t 20)) none },
  { dst:=some 22,op:=.call (.f fc) [(.t 21)] },
  { dst:=some 2,op:=.mov (.t 22) }]) .ret) (Bw [.t 2] (.d (.sl dW (cP (dE l))))) ⟨sl,[]⟩:=by
  intro sl n h0 h3 hn;have hnl:n≤l.length:=by rw[hn];exact xW l _
  refine wR ?_;simp only[xq,reduceIte,qE,qA,qL,qD,h0,h3,cR,aA,Int.sub_zero,jI];refine⟨by omega,by omega,by omega,by omega,?_⟩;refine dF (Jm Hc hNc _) rfl ?_;simp only[xq,reduceIte,qE,qA,qL,qD];refine cT (.frz ?_);simp only[xq,reduceIte,qE,qA,qL,qD,hn];exact .same rfl
 cases m with
 | zero =>
  refine cN (cN (eD (by simp) ?_));simp only[xq,reduceIte,qE,qA,qL,qD,S,aA,Int.lt_irrefl,decide_false];refine cL rfl (fun hc=>by cases hc) (fun _=>dJ ?_);simp only[xq,reduceIte,qE,qA,qL,qD];exact fin _ 0 rfl rfl htr.symm
 | succ n =>
  have sD:decide ((0:Int)<((n+1:Nat):Int))=true:=decide_eq_true (by omega);have cY:n<l.length:=by omega
  refine cN (cN (eD (by simp) ?_));simp only[xq,reduceIte,qE,qA,qL,qD,S,sD,xT (show n≤dL by omega),eS cY,Gl.row,cR];refine⟨by omega,by omega,?_⟩;refine dF (Rz Hb) rfl ?_;simp only[xq,reduceIte,qE,qA,qL,qD,Np,Gl.row,Jn];refine cL rfl (fun hc=>cQ ?_) (fun hc=>dJ ?_)
  ·have he:l[n]=eL:=by simpa using hc
   simp only[xq,reduceIte,qE,qA,qL,qD];refine cS (cU ?_);simp only[xq,reduceIte,qE,qA,qL,qD];refine⟨n,S n,Nat.lt_succ_self _,Co.keep _ ?_,by omega,rfl,?_⟩
   ·simp[cJ,cK,aAa (show n≤dL by omega)]
   ·rw[htr];simp[kC,zB cY,he]
  ·have he:l[n]≠eL:=by simpa using hc
   simp only[xq,reduceIte,qE,qA,qL,qD];refine fin _ (n+1) rfl rfl ?_;rw[htr];simp[kC,zB cY,he]
theorem uS(l:List Gl):(dE l).length=kC l l.length:=by
 have:=xW l l.length;simp[dE];omega
theorem Gq(l:List Gl):∀ n k,kC l n=k+1→l[k]? ≠ some eL
 | 0,k,h=>by simp[kC] at h
 | n+1,k,h=>by
  simp only[kC] at h;split at h
  ·exact Gq l n k h
  ·rename_i fM;have:n=k:=by omega
   subst this;exact fM
theorem Cx(l:List Gl):dE (dE l)=dE l:=by
 have h:=uS l;have e:kC (dE l) (dE l).length=(dE l).length:=by
  cases hk:(dE l).length with
  | zero=>rfl
  | succ k =>
   have fM:=Gq l l.length k (by omega);have:(dE l)[k]? = l[k]? := by rw[dE,List.getElem?_take,if_pos (by omega)]
   rw[kC,if_neg (by rw[this];exact fM)]
 show(dE l).take (kC (dE l) (dE l).length)=dE l;rw[e,zh]
end
end Go.Proofs.YtlllnjhgjijnkaaGreatDoor.Nx
