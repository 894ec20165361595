import Derived.Test.YtlllnjhgjijnkaaGreatDoorNxI6
set_option linter.all false
open Nat renaming zero_le → zI
open Int renaming toNat_natCast → zQ
open Nat renaming reduceEqDiff → qE, reduceAdd → qA, reduceLT → qL, reduceLeDiff → qD
open Int renaming natCast_zero → aA
namespace Go.Proofs.YtlllnjhgjijnkaaGreatDoor.Nx
open Go
variable {P:Program}{N:Nat}{Γ:dP}
set_option maxHeartbeats 1000000 in
theorem aEq{f fc:FuncId}(H:FnIs P f N [.t 2] (Aq fc))(hN:1≤N)(Hc:Px Γ P fc):Lu Γ P f:=by
 intro l hl;refine .of_W H (by simpa using hN) ?_;have hll:=hl.len;unfold Aq;refine wR ?_;simp only[xq,reduceIte,qE,qA,qL,qD];refine wR ?_;simp only[xq,reduceIte,qE,qA,qL,qD];refine cN ?_;refine wR ?_;simp only[xq,reduceIte,qE,qA,qL,qD];refine cS ?_;let S:Nat→St:=fun i=>⟨dB [(0,eV l),(3,.int (gC (l.take i))),(4,.int i)],[]⟩;refine dX (s':=S 0) (Co.keep _ (by simp[cJ,cK,gC])) ?_;refine dN (fun m s=>∃ i,i≤l.length∧m=l.length-i∧s=S i) ⟨0,zI _,rfl,rfl⟩ ?_;rintro m s ⟨i,hi,rfl,rfl⟩;simp only[S];refine cN ?_;refine wR ?_;simp only[xq,reduceIte,qE,qA,qL,qD,dD];refine cL rfl (fun hc=>cQ ?_) (fun hc=>dJ ?_)
 ·have cY:i<l.length:=by simpa using hc
  have w1:IntKind.i64.wrap ((i:Int)+1)=((i+1:Nat):Int):=by rw[cX (by omega)];omega
  have hb:=hl.bnd i;have Im:=hl.gl _ (List.getElem_mem cY);have Pl:=Od cY;have aJ9:=Tc cY;have Ij:yF l[i]=if l[i].kind=1∨l[i].kind=4 then 1 else if l[i].kind=2 then 3 else if l[i].kind=3 then lX l[i] else 0:=rfl;obtain⟨c,Kt⟩:∃ c,c=l[i]:=⟨_,rfl⟩;have Cc:(eP l).getD i []=c.ds:=by rw[jP cY,← Kt]
  rw[← Kt] at Im Pl aJ9 Ij;have hC:=Hc c Im;have hcb:=Lt Im;obtain⟨n0,hn0⟩:∃ n,n=gC (l.take i):=⟨_,rfl⟩;rw[← hn0] at hb Pl;simp only[← hn0];simp only[xq,reduceIte,qE,qA,qL,qD];let T:Int→St:=fun n=>⟨dB [(0,eV l),(3,.int n),(4,.int i)],[]⟩;refine eJ (· = T (n0+yF c)) ?_ ?_
  ·refine cS ?_;let V:St:=⟨dB [(0,eV l),(3,.int n0),(4,.int i),(15,.int c.kind)],[]⟩;refine wR ?_;simp only[xq,reduceIte,qE,qA,qL,qD,dD,Cc,Cg.ds,zQ];refine⟨by omega,by omega,?_⟩;refine dX (s':=V) (Co.keep _ (by simp[cJ,cK])) ?_;have fin:∀ (sl:Nat→A) (h:cM) (n:Int),sl 0=eV l→sl 3 = .int n→sl 4 = .int i→n=n0+yF c→∃ s1,Co 0 ⟨sl,h⟩ s1∧s1=T (n0+yF c):=by
    intro sl h n q0 q3 q4 hn;refine⟨_,Co.to (s:=⟨sl,h⟩) [(0,eV l),(3,.int n),(4,.int i)] 0 ?_ (zI _) (zI _) u0,?_⟩
    ·simp[q0,q3,q4,A.under]
    ·rw[hn];rfl
   simp only[V];refine cS ?_;refine eJ (· = ⟨dB [(0,eV l),(3,.int n0),(4,.int i),(15,.int c.kind),(16,.bool (decide (c.kind=1)||decide (c.kind=4)))],[]⟩) ?_ ?_
   ·refine wR ?_;simp only[xq,reduceIte,qE,qA,qL,qD];refine cL rfl (fun hd=>cQ ?_) (fun hd=>cU ?_)
    ·exact⟨rfl,_,Co.keep _ (by simp[cJ,cK,hd]),rfl⟩
    ·simp only[xq,reduceIte,qE,qA,qL,qD];exact⟨_,Co.keep _ (by simp[cJ,cK,hd]),rfl⟩
   rintro _ rfl;refine cL rfl (fun hd=>?_) (fun hd=>?_)
   ·have hd:c.kind=1∨c.kind=4:=by simpa using hd
    rw[if_pos hd] at Ij;have w2:IntKind.i64.wrap (n0+1)=n0+1:=cX (by omega);refine cU ?_;simp only[xq,reduceIte,qE,qA,qL,qD,w2];exact fin _ _ (n0+1) rfl rfl rfl (by rw[Ij])
   have hd:¬ (c.kind=1∨c.kind=4):=by simpa using hd
   rw[if_neg hd] at Ij;refine wR ?_;simp only[xq,reduceIte,qE,qA,qL,qD];refine cL rfl (fun tU=>?_) (fun tU=>?_)
   ·have tU:=of_decide_eq_true tU;rw[if_pos tU] at Ij;have w2:IntKind.i64.wrap (n0+3)=n0+3:=cX (by omega);refine cU ?_;simp only[xq,reduceIte,qE,qA,qL,qD,w2];exact fin _ _ (n0+3) rfl rfl rfl (by rw[Ij])
   have tU:=of_decide_eq_false tU;rw[if_neg tU] at Ij;refine wR ?_;simp only[xq,reduceIte,qE,qA,qL,qD];refine cL rfl (fun hd3=>?_) (fun hd3=>cQ ?_)
   ·have hd3:=of_decide_eq_true hd3;rw[if_pos hd3] at Ij;have w2:IntKind.i64.wrap (n0+lX c)=n0+lX c:=by rw[← Ij];exact cX (by omega)
    refine cU ?_;simp only[xq,reduceIte,qE,qA,qL,qD,w1,zQ,show(((i+1:Nat):Int)-(i:Int)).toNat=1 by omega,aJ9,dD]
    repeat refine And.intro (by omega) ?_
    refine dF (hC) rfl ?_;simp only[xq,reduceIte,qE,qA,qL,qD,w2];exact fin _ _ (n0+lX c) rfl rfl rfl (by rw[Ij])
   ·have hd3:=of_decide_eq_false hd3;rw[if_neg hd3] at Ij;simp only[xq,reduceIte,qE,qA,qL,qD];exact fin _ _ n0 rfl rfl rfl (by rw[Ij,Int.add_zero])
  rintro _ rfl;simp only[T];refine cU ?_;simp only[xq,reduceIte,qE,qA,qL,qD,w1];exact⟨l.length-(i+1),S (i+1),by omega,Co.keep _ (by simp[cJ,cK,Pl]),i+1,cY,rfl,rfl⟩
 ·have gZ:i=l.length:=by simp at hc;omega
  subst gZ;simp only[xq,reduceIte,qE,qA,qL,qD];refine wR ?_;simp only[xq,reduceIte,qE,qA,qL,qD];refine cT (.tmp ?_ rfl);simp only[cJ,reduceIte,List.take_length,xq,reduceIte,qE,qA,qL,qD]
theorem aEr{f:FuncId}(H:FnIs P f N [.t 2] mD)(hN:1≤N):Px Γ P f:=by
 intro c hg;refine .of_W H (by simpa using hN) ?_;unfold mD;refine wR ?_;simp only[xq,reduceIte,qE,qA,qL,qD];refine wR ?_;simp only[xq,reduceIte,qE,qA,qL,qD];refine cN ?_;refine wR ?_;simp only[xq,reduceIte,qE,qA,qL,qD];refine cS ?_;let S:Nat→Int→St:=fun i n=>⟨dB [(0,eV [c]),(3,.int n),(4,.int i)],[]⟩;refine dX (s':=S 0 0) (Co.keep _ (by simp[cJ,cK])) ?_;refine dN (fun m s=>(m=1∧s=S 0 0)∨(m=0∧s=S 1 (lX c))) (.inl ⟨rfl,rfl⟩) ?_;rintro m s (⟨rfl,rfl⟩ | ⟨rfl,rfl⟩)
 ·simp only[S];refine cN ?_;refine wR ?_;simp only[xq,reduceIte,qE,qA,qL,qD,dD];refine cL rfl (fun hc=>cQ ?_) (fun hc=>by cases hc);have Cc:(eP [c]).getD 0 []=c.ds:=rfl;obtain⟨k,hk⟩:∃ k,k=max 0 (min c.count 1000):=⟨_,rfl⟩;have Cb:0≤k∧k≤1000:=by omega
  have w2:IntKind.i64.wrap (0+2)=2:=by decide
  have w3:IntKind.i64.wrap (2+k)=2+k:=cX (by omega);have w4:IntKind.i64.wrap (2+k+c.gl.length)=lX c:=by rw[cX (by omega),hk];rfl
  have w1:IntKind.i64.wrap (0+1)=1:=by decide
  simp only[xq,reduceIte,qE,qA,qL,qD];refine cN (cS ?_);refine wR ?_;simp only[xq,reduceIte,qE,qA,qL,qD,dD,Cc,Cg.ds,(by decide:Int.toNat 0=0),aA];refine⟨by decide,by decide,?_⟩;refine eJ (· = ⟨dB [(0,eV [c]),(3,.int 0),(4,.int 0),(5,.int (max 0 c.count))],[]⟩) ?_ ?_
  ·refine wR ?_;simp only[xq,reduceIte,qE,qA,qL,qD];refine cL rfl (fun hd=>?_) (fun hd=>cQ ?_)
   ·have hd:=of_decide_eq_true hd;refine cU ?_;simp only[xq,reduceIte,qE,qA,qL,qD];exact⟨_,Co.keep _ (by simp[cJ,cK,show max 0 c.count=0 by omega]),rfl⟩
   ·have hd:=of_decide_eq_false hd;exact⟨rfl,_,Co.keep _ (by simp[cJ,cK,show max 0 c.count=c.count by omega]),rfl⟩
  rintro _ rfl;refine eJ (· = ⟨dB [(0,eV [c]),(3,.int 0),(4,.int 0),(5,.int k)],[]⟩) ?_ ?_
  ·refine wR ?_;simp only[xq,reduceIte,qE,qA,qL,qD];refine cL rfl (fun hd=>?_) (fun hd=>cQ ?_)
   ·have hd:=of_decide_eq_true hd;refine cU ?_;simp only[xq,reduceIte,qE,qA,qL,qD];exact⟨_,Co.keep _ (by simp[cJ,cK,show k=1000 by omega]),rfl⟩
   ·have hd:=of_decide_eq_false hd;exact⟨rfl,_,Co.keep _ (by simp[cJ,cK,show k=max 0 c.count by omega]),rfl⟩
  rintro _ rfl;refine cU ?_;simp only[xq,reduceIte,qE,qA,qL,qD,dD,Cc,Cg.ds,cR,w2,w3,w4,(by decide:Int.toNat 0=0),aA];refine⟨by decide,by decide,?_⟩;refine cU ?_;simp only[xq,reduceIte,qE,qA,qL,qD,w1];exact⟨0,S 1 (lX c),by decide,Co.keep _ (by simp[cJ,cK]),.inr ⟨rfl,rfl⟩⟩
 ·simp only[S];refine cN ?_;refine wR ?_;simp only[xq,reduceIte,qE,qA,qL,qD,dD];refine cL rfl (fun hc=>by cases hc) (fun hc=>dJ ?_);simp only[xq,reduceIte,qE,qA,qL,qD];refine wR ?_;simp only[xq,reduceIte,qE,qA,qL,qD];refine cT (.tmp ?_ rfl);simp only[cJ,reduceIte]
def aNN(h:cM)(l:List Nat)(x:A):Prop:=∃ q,x = .ref q l.length 0 l.length true∧h[q]? = some (aDW l)
theorem aNN.frz{h:cM}{l:List Nat}{x:A}(o:aNN h l x):FrzA 0 h x (aLc l):=by
 obtain⟨q,rfl,hq⟩:=o;have:=iJ (id:=q) (full:=true) (e:=fL) hq;rw[uZ] at this;exact this
end Go.Proofs.YtlllnjhgjijnkaaGreatDoor.Nx
