import Derived.Test.YtlllnjhgjijnkaaGreatDoorNxE21
set_option linter.all false
open Bool renaming true_eq_false → zE
open Nat renaming zero_le → zI
open Int renaming toNat_natCast → zQ
open List renaming map_cons → zU, map_nil → zV
open Nat renaming reduceEqDiff → qE, reduceAdd → qA, reduceLT → qL, reduceLeDiff → qD
set_option maxHeartbeats 2000000
open Bool renaming false_and → aA, false_or → aB, true_and → aC, true_or → aD, false_eq_true → aE, not_false → aF, not_true → aG, eq_iff_iff → aJ
open List renaming take_length → aH, getElem_mem → aI
namespace Go.Proofs.YtlllnjhgjijnkaaGreatDoor.Nx
open Go
section
variable {P:Program}{N:Nat}{Γ:dP}
theorem aPr{a b:Cg}:(((((!decide (a.kind=b.kind) || !decide (a.row=b.row)) || !decide (a.col=b.col)) || !decide (a.count=b.count)) || !decide (a.upto=b.upto)) || !decide (a.gl=b.gl)) = !decide (a=b):=by
 rw[← aPl];simp only[Bool.not_and]
theorem aEd{f fs:FuncId}(H:FnIs P f N [.t 4] (Ak fs))(hN:2≤N)(Hs:aGB Γ P fs)(a b:List Cg):FnP Γ P f [eV a,eV b] (.bool (decide (a=b))):=by
 refine .of_W H (by simpa using hN) (xR 0 rfl fun⟨_,dT,_⟩=>?_);have vI:a.length≤dL:=fI (by rw[dD] at dT;exact dT);unfold Ak;refine wR ?_;simp only[xq,reduceIte,qE,qA,qL,qD];refine cN ?_;refine wR ?_;simp only[xq,reduceIte,qE,qA,qL,qD,dD];refine cL rfl (fun hc=>?_) (fun hc=>cQ ?_)
 ·refine wR ?_;simp only[xq,reduceIte,qE,qA,qL,qD];have fM:a≠b:=by rintro rfl;simp at hc
  refine cT (.tmp ?_ rfl);simp[cJ,fM]
 have eG:a.length=b.length:=by simp at hc;omega
 simp only[xq,reduceIte,qE,qA,qL,qD];refine cN ?_;refine wR ?_;simp only[xq,reduceIte,qE,qA,qL,qD];refine cS ?_;let S:Nat→St:=fun i=>⟨dB [(0,eV a),(1,eV b),(5,.int i)],[]⟩;refine dX (s':=S 0) (Co.keep _ (by simp[cJ,cK])) ?_;refine dN (fun m s=>∃ i,i≤a.length∧m=a.length-i∧s=S i∧a.take i=b.take i) ⟨0,zI _,rfl,rfl,by simp⟩ ?_;rintro m s ⟨i,hi,rfl,rfl,dZ⟩;simp only[S];refine cN (cN ?_);refine cU ?_;simp only[xq,reduceIte,qE,qA,qL,qD,dD];refine cL rfl (fun hc=>cQ ?_) (fun hc=>dJ ?_)
 ·have cY:i<a.length:=by simpa using hc
  have Dz:i<b.length:=by omega
  simp only[xq,reduceIte,qE,qA,qL,qD];refine cN (cS ?_);obtain⟨x,hx⟩:∃ x,x=a[i]:=⟨_,rfl⟩;obtain⟨y,hy⟩:∃ y,y=b[i]:=⟨_,rfl⟩;have hxr:(eP a).getD i []=x.ds:=by rw[jP cY,hx]
  have hyr:(eP b).getD i []=y.ds:=by rw[jP Dz,hy]
  refine cN (eD (by simp[cJ,cK,dB,A.touch]) ?_);simp only[xq,reduceIte,qE,qA,qL,qD,dD,hxr,hyr,Cg.ds,zQ];refine⟨by omega,by omega,by omega,by omega,?_⟩;obtain⟨b0,h0⟩:∃ z,z = !decide (x.kind=y.kind):=⟨_,rfl⟩;obtain⟨b1,h1⟩:∃ z,z=(b0 || !decide (x.row=y.row)):=⟨_,rfl⟩;obtain⟨b2,h2⟩:∃ z,z=(b1 || !decide (x.col=y.col)):=⟨_,rfl⟩;obtain⟨b3,h3⟩:∃ z,z=(b2 || !decide (x.count=y.count)):=⟨_,rfl⟩;obtain⟨b4,h4⟩:∃ z,z=(b3 || !decide (x.upto=y.upto)):=⟨_,rfl⟩;have h5:(b4 || !decide (x.gl=y.gl)) = !decide (x=y):=by rw[h4,h3,h2,h1,h0,aPr]
  let T:Nat→Bool→St:=fun n z=>⟨dB [(0,eV a),(1,eV b),(5,.int i),(6,.ptr 0 1 0 0),(7,.ptr 1 1 0 0),(n,.bool z)],[iA x,iA y]⟩;refine eJ (· = ⟨dB [(0,eV a),(1,eV b),(5,.int i),(67,.bool (!decide (x=y)))],[iA x,iA y]⟩) (Pr fun K hK=>?_) ?_
  ·refine eU 6 (· = T 32 b0) rfl (by intro h;cases h) (fun K1 hK1=>?_) ?_
   ·rw[h0] at hK1;simp only[xq,reduceIte,qE,qA,qL,qD];exact hK1 _ _ (Co.keep _ (by simp[cJ,cK])) rfl
   rintro _ rfl;refine eU 7 (· = T 39 b1) rfl (by intro h;cases h) (fun K1 hK1=>?_) ?_
   ·rw[h1] at hK1;cases b0<;>simp only[T,iA,Cg.ds,xq,reduceIte,qE,qA,qL,qD,aB,aD,cV,zE]
    all_goals (refine hK1 _ _ (Co.keep _ ?_) rfl;simp[cJ,cK])
   rintro _ rfl;refine eU 7 (· = T 46 b2) rfl (by intro h;cases h) (fun K1 hK1=>?_) ?_
   ·rw[h2] at hK1;cases b1<;>simp only[T,iA,Cg.ds,xq,reduceIte,qE,qA,qL,qD,aB,aD,cV,zE]
    all_goals (refine hK1 _ _ (Co.keep _ ?_) rfl;simp[cJ,cK])
   rintro _ rfl;refine eU 7 (· = T 53 b3) rfl (by intro h;cases h) (fun K1 hK1=>?_) ?_
   ·rw[h3] at hK1;cases b2<;>simp only[T,iA,Cg.ds,xq,reduceIte,qE,qA,qL,qD,aB,aD,cV,zE]
    all_goals (refine hK1 _ _ (Co.keep _ ?_) rfl;simp[cJ,cK])
   rintro _ rfl;refine eU 7 (· = T 60 b4) rfl (by intro h;cases h) (fun K1 hK1=>?_) ?_
   ·rw[h4] at hK1;cases b3<;>simp only[T,iA,Cg.ds,xq,reduceIte,qE,qA,qL,qD,aB,aD,cV,zE]
    all_goals (refine hK1 _ _ (Co.keep _ ?_) rfl;simp[cJ,cK])
   rintro _ rfl;refine rX rfl ?_;rw[← h5] at hK;cases b4
   ·simp only[T,iA,Cg.ds,xq,reduceIte,qE,qA,qL,qD,aB];refine dF (Hs x.gl y.gl) rfl ?_;simp only[xq,reduceIte,qE,qA,qL,qD];refine hK _ ?_;exact⟨rfl,_,Co.keep _ (by simp[cJ,cK]),rfl⟩
   ·simp only[T,iA,Cg.ds,xq,reduceIte,qE,qA,qL,qD,aD,cV,zE];refine hK _ ?_;exact⟨rfl,_,Co.keep _ (by simp[cJ,cK]),rfl⟩
  rintro _ rfl;clear h0 h1 h2 h3 h4 h5;refine cL rfl (fun hd=>?_) (fun hd=>cQ ?_)
  ·refine wR ?_;simp only[xq,reduceIte,qE,qA,qL,qD];have fM:a≠b:=by
    rintro rfl;rw[hx,hy] at hd;simp at hd
   refine cT ?_;simp only[xq,reduceIte,qE,qA,qL,qD];refine .tmp ?_ rfl;simp[cJ,fM]
  ·have he:a[i]=b[i]:=by rw[← hx,← hy];simpa using hd
   simp only[xq,reduceIte,qE,qA,qL,qD];refine cU ?_;simp only[xq,reduceIte,qE,qA,qL,qD,gB cY vI];exact⟨a.length-(i+1),S (i+1),by omega,Co.to _ 0 (by simp[cJ,cK,A.under]) (zI _) (zI _) u0,i+1,cY,rfl,rfl,pK cY Dz dZ he⟩
 ·have gZ:i=a.length:=by simp at hc;omega
  have heq:a=b:=by
   subst gZ;rw[aH,eG,aH] at dZ;exact dZ
  simp only[xq,reduceIte,qE,qA,qL,qD];refine wR ?_;simp only[xq,reduceIte,qE,qA,qL,qD];refine cT (.tmp ?_ rfl);simp[cJ,heq]
abbrev Yy(Γ:dP)(P:Program)(f:FuncId):Prop:=∀ a b:List Cg,FnP Γ P f [eV a,eV b] (.bool (decide (a=b)))
end
section
variable {P:Program}{N:Nat}{Γ:dP}
theorem aNK{f:FuncId}(H:FnIs P f N [.t 6] Gm)(hN:3≤N)(n a b:Int):FnP Γ P f [.int n,.int a,.int b] (.bool (btw n a b)):=by
 refine .of_W H (by simpa using hN) ?_;unfold Gm;refine wR ?_;simp only[xq,reduceIte,qE,qA,qL,qD];unfold btw;cases e:decide (a≤n)
 ·refine wR ?_;simp only[xq,reduceIte,qE,qA,qL,qD,e,cV,zE,aA];refine cT (.tmp ?_ rfl);simp only[cJ,reduceIte]
 ·refine wR ?_;simp only[xq,reduceIte,qE,qA,qL,qD,e,cV,zE];refine cT (.tmp ?_ rfl);simp only[cJ,reduceIte]
theorem aEe{f fi fg:FuncId}(H:FnIs P f N [.t 4] (uM fi fg))(hN:2≤N)(Hi:∀ n a b,FnP Γ P fi [.int n,.int a,.int b] (.bool (btw n a b)))(Hg:∀ g:Gl,g.text.size≤1000→FnP Γ P fg [Np g] (.int (eR g)))
  (v:Vw) (c:Cg) (hk:c.kind=3) (hl:(v.rows.length:Int)=v.height) (hh:1≤v.height∧v.height≤60) (hr:∀ r∈v.rows,r.length≤50000) (hg:∀ g∈c.gl,g.text.size≤1000):FnP Γ P f [fF v,pG c] (.int (iM v c)):=by
 refine .of_W H (by simpa using hN) (tK 1 5 rfl rfl fun⟨_,dT,_⟩=>?_);have vI:c.gl.length≤dL:=fI (by rw[cR] at dT;exact dT);have aA2:=vI;simp only[dL] at aA2;have hkb:btw c.kind 1 4=true:=fP.2 (by omega);have Qd:blankG c=decide (c.upto=0):=by rw[blankG,if_neg (by omega),if_neg (by omega),if_pos hk]
 have hrg:eM v c=((btw c.row 0 (v.height-1)&&btw c.col 0 264)&&btw c.count 0 (max 0 (((iD v.rows c.row).length:Int)-c.col))):=by rw[eM,if_neg (by omega),if_neg (by omega),if_pos hk]
 have w1:IntKind.i64.wrap (v.height-1)=v.height-1:=cX (by omega);unfold uM;simp only[fF,Vw.ds,pG,Cg.ds,zU,zV];refine wR ?_;simp only[xq,reduceIte,qE,qA,qL,qD];refine cN ?_;refine wR ?_;simp only[xq,reduceIte,qE,qA,qL,qD];refine cL rfl (fun hd=>?_) (fun hd=>cQ ?_)
 ·refine wR ?_;simp only[xq,reduceIte,qE,qA,qL,qD];refine cT (.tmp ?_ rfl);have hd:decide (c.upto=0)=false:=by simpa using hd
  simp only[cJ,reduceIte,iM,hkb,Qd,hd,aE]
 have hup:decide (c.upto=0)=true:=by simpa using hd
 have Vf:iM v c=if eM v c then Fo eR c.gl else 2:=by simp only[iM,hkb,Qd,hup,if_true]
 simp only[xq,reduceIte,qE,qA,qL,qD];let S:Nat→Bool→St:=fun n z=>⟨dB [(2,.ptr 0 1 0 0),(3,.ptr 1 1 0 0),(n,.bool z)],[fX v,iA c]⟩;refine cN (eJ (· = S 28 ((!btw c.row 0 (v.height-1) || !btw c.col 0 264)||decide (c.count<0))) (cU ?_) ?_)
 ·have h1:=Hi c.row 0 (v.height-1);have h2:=Hi c.col 0 264;cases e1:btw c.row 0 (v.height-1)
  ·rw[e1] at h1;simp only[xq,reduceIte,qE,qA,qL,qD,w1];refine dF (h1) rfl ?_;simp only[xq,reduceIte,qE,qA,qL,qD,cV,zE,aF,aD];exact⟨_,Co.keep _ (by simp[cJ,cK]),rfl⟩
  cases e2:btw c.col 0 264
  ·rw[e1] at h1;rw[e2] at h2;simp only[xq,reduceIte,qE,qA,qL,qD,w1];refine dF (h1) rfl ?_;simp only[xq,reduceIte,qE,qA,qL,qD,aG,aF];refine dF (h2) rfl ?_;simp only[xq,reduceIte,qE,qA,qL,qD,cV,zE,aG,aF,aD,Bool.or_true];exact⟨_,Co.keep _ (by simp[cJ,cK]),rfl⟩
  ·rw[e1] at h1;rw[e2] at h2;simp only[xq,reduceIte,qE,qA,qL,qD,w1];refine dF (h1) rfl ?_;simp only[xq,reduceIte,qE,qA,qL,qD,aG,aF];refine dF (h2) rfl ?_;simp only[xq,reduceIte,qE,qA,qL,qD,aG,aF];exact⟨_,Co.keep _ (by simp[cJ,cK]),rfl⟩
 rintro _ rfl;simp only[S];refine cL rfl (fun hd=>?_) (fun hd=>cQ ?_)
 ·refine wR ?_;simp only[xq,reduceIte,qE,qA,qL,qD];refine cT (.tmp ?_ rfl);have:eM v c=false:=by
   rw[hrg];cases e1:btw c.row 0 (v.height-1)
   ·rfl
   cases e2:btw c.col 0 264
   ·rfl
   rw[e1,e2] at hd;have:c.count<0:=by simpa using hd
   cases e3:btw c.count 0 (max 0 (((iD v.rows c.row).length:Int)-c.col))
   ·rfl
   ·have:=fP.1 e3;omega
  simp only[cJ,reduceIte,Vf,this,aE]
 simp only[Bool.or_eq_false_iff,Bool.not_eq_false',decide_eq_false_iff_not] at hd;obtain⟨⟨e1,e2⟩,e3⟩:=hd;have b1:=fP.1 e1;have b2:=fP.1 e2;rw[e1,e2] at hrg;obtain⟨j,hj⟩:∃ j:Nat,c.row=j:=⟨c.row.toNat,by omega⟩;have qO:j<v.rows.length:=by omega
 have hra:iD v.rows c.row=v.rows[j]:=by
  unfold iD;rw[hj,zQ,List.getD_eq_getElem?_getD,List.getElem?_eq_getElem qO];rfl
 have Mu:=hr _ (aI qO);obtain⟨n,hn⟩:∃ n,n=v.rows[j].length:=⟨_,rfl⟩;rw[hra,← hn] at hrg;rw[← hn] at Mu;have w2:IntKind.i64.wrap ((n:Int)-c.col)=(n:Int)-c.col:=cX (by omega);simp only[xq,reduceIte,qE,qA,qL,qD];refine cN ?_;refine wR ?_;simp only[xq,reduceIte,qE,qA,qL,qD,Vw.ds,Cg.ds,hj,cW,eC qO,zQ,cR,← hn];refine⟨by omega,by omega,?_⟩;refine eJ (· = S 59 (decide (max 0 ((n:Int)-c.col)<c.count))) (aIh fun K hK=>?_) ?_
 ·by_cases h1:c.col≤(n:Int)
  ·have d1:decide (c.col≤(n:Int))=true:=decide_eq_true h1;have d2:decide ((n:Int)<c.col)=false:=decide_eq_false (by omega)
   by_cases h2:(n:Int)-c.col<c.count
   ·have d3:decide ((n:Int)-c.col<c.count)=true:=decide_eq_true h2;have d4:decide (max 0 ((n:Int)-c.col)<c.count)=true:=decide_eq_true (by omega);rw[d4] at hK;refine fS 14 fun K1 hK1=>?_;simp only[xq,reduceIte,qE,qA,qL,qD,Cg.ds,d1,d3,w2];refine hK1 _ ?_;simp only[xq,reduceIte,qE,qA,qL,qD,cV,zE];refine hK _ ?_;exact⟨rfl,_,Co.keep _ (by simp[cJ,cK]),rfl⟩
   ·have d3:decide ((n:Int)-c.col<c.count)=false:=decide_eq_false h2;have d4:decide (max 0 ((n:Int)-c.col)<c.count)=false:=decide_eq_false (by omega);rw[d4] at hK;refine fS 14 fun K1 hK1=>?_;simp only[xq,reduceIte,qE,qA,qL,qD,Cg.ds,d1,d3,w2];refine hK1 _ ?_;simp only[xq,reduceIte,qE,qA,qL,qD,Cg.ds,d2,cV,zE];refine hK _ ?_;exact⟨rfl,_,Co.keep _ (by simp[cJ,cK]),rfl⟩
  ·have d1:decide (c.col≤(n:Int))=false:=decide_eq_false h1;have d2:decide ((n:Int)<c.col)=true:=decide_eq_true (by omega);have d4:decide (max 0 ((n:Int)-c.col)<c.count)=decide (0<c.count):=by rw[aJ];simp only[decide_eq_true_eq];omega
   rw[d4] at hK;refine fS 14 fun K1 hK1=>?_;simp only[xq,reduceIte,qE,qA,qL,qD,Cg.ds,d1,cV,zE];refine hK1 _ ?_;simp only[xq,reduceIte,qE,qA,qL,qD,Cg.ds,d2];refine hK _ ?_;exact⟨rfl,_,Co.keep _ (by simp[cJ,cK]),rfl⟩
 rintro _ rfl;refine cL rfl (fun hd=>?_) (fun hd=>cQ ?_)
 ·refine wR ?_;simp only[xq,reduceIte,qE,qA,qL,qD];refine cT ?_;simp only[xq,reduceIte,qE,qA,qL,qD];refine .tmp ?_ rfl;have hd:max 0 ((n:Int)-c.col)<c.count:=by simpa using hd
  have:eM v c=false:=by
   rw[hrg];cases e3:btw c.count 0 (max 0 ((n:Int)-c.col))
   ·rfl
   ·have:=fP.1 e3;omega
  simp only[cJ,reduceIte,Vf,this,aE]
 have hd:¬ max 0 ((n:Int)-c.col)<c.count:=by simpa using hd
 have hrt:eM v c=true:=by
  rw[hrg,fP.2 (by omega:0≤c.count∧c.count≤max 0 ((n:Int)-c.col))];rfl
 rw[hrt,if_pos rfl] at Vf;simp only[xq,reduceIte,qE,qA,qL,qD];refine cN ?_;refine wR ?_;simp only[xq,reduceIte,qE,qA,qL,qD,S];refine cS ?_;let T:Nat→St:=fun i=>⟨dB [(2,.ptr 0 1 0 0),(3,.ptr 1 1 0 0),(6,.int i)],[fX v,iA c]⟩;refine dX (s':=T 0) (Co.keep _ (by simp[cJ,cK,S])) ?_;refine dN (fun q s=>∃ i,i≤c.gl.length∧q=c.gl.length-i∧s=T i∧Fo eR c.gl=Fo eR (c.gl.drop i)) ⟨0,zI _,rfl,rfl,rfl⟩ ?_;rintro q s' ⟨i,hi,rfl,rfl,Vp⟩;simp only[T];refine cN (cN ?_);refine cU ?_;simp only[xq,reduceIte,qE,qA,qL,qD,Cg.ds,cR];refine cL rfl (fun hc=>cQ ?_) (fun hc=>dJ ?_)
 ·have cY:i<c.gl.length:=by simpa using hc
  have hG:=Hg c.gl[i] (hg _ (aI cY));simp only[Np,Gl.row,zU,zV] at hG;rw[xX cY] at Vp;simp only[xq,reduceIte,qE,qA,qL,qD];refine cN (cS ?_);refine wR ?_;simp only[xq,reduceIte,qE,qA,qL,qD,Cg.ds,cR,eS cY,Gl.row,zQ];refine⟨by omega,by omega,?_⟩;refine dF (hG) rfl ?_;simp only[xq,reduceIte,qE,qA,qL,qD];refine wR ?_;simp only[xq,reduceIte,qE,qA,qL,qD];refine cL rfl (fun hd=>?_) (fun hd=>cQ ?_)
  ·have hd:¬ eR c.gl[i]=0:=by simpa using hd
   rw[if_neg hd] at Vp;refine wR ?_;simp only[xq,reduceIte,qE,qA,qL,qD];refine cT ?_;simp only[xq,reduceIte,qE,qA,qL,qD];refine .tmp ?_ rfl;simp only[cJ,reduceIte,Vf,Vp]
  ·have hd:eR c.gl[i]=0:=by simpa using hd
   rw[if_pos hd] at Vp;simp only[xq,reduceIte,qE,qA,qL,qD];refine cU ?_;simp only[xq,reduceIte,qE,qA,qL,qD,gB cY vI];exact⟨c.gl.length-(i+1),T (i+1),by omega,Co.keep _ (by simp[cJ,cK]),i+1,cY,rfl,rfl,Vp⟩
 ·have gZ:i=c.gl.length:=by simp at hc;omega
  subst gZ;rw[List.drop_length] at Vp;simp only[xq,reduceIte,qE,qA,qL,qD];refine wR ?_;simp only[xq,reduceIte,qE,qA,qL,qD];refine cT (.tmp ?_ rfl);simp only[cJ,reduceIte,Vf,Vp,Fo]
end
section
variable {P:Program}{N:Nat}{Γ:dP}
theorem aI5{w h:Int}:xV w h=(btw h 1 60&&btw w 1 132):=by
 rw[aJ,gF,Bool.and_eq_true,fP,fP];omega
theorem aLn{l:List Gl}:decide (0<(l.length:Int)) = !decide (l=[]):=by
 cases l with
 | nil=>rfl
 | cons a l=>simp
theorem aLo{f fs fi fz:FuncId}(H:FnIs P f N [.t 4] (Ar fs fi fz))(hN:2≤N)(Hi:∀ n a b,FnP Γ P fi [.int n,.int a,.int b] (.bool (btw n a b)))(Hz:∀ w h,FnP Γ P fz [.int w,.int h] (.bool (xV w h)))
  (v:Vw) (c:Cg) (ed:Ed v) (Hs:c.kind=3→FnP Γ P fs [fF v,pG c] (.int (iM v c))):FnP Γ P f [fF v,pG c] (.int (iM v c)):=by
 refine .of_W H (by simpa using hN) ?_;have hs:=gF.1 ed.sz;have w1:IntKind.i64.wrap (v.height-1)=v.height-1:=cX (by omega);have w2:IntKind.i64.wrap (v.width-1)=v.width-1:=cX (by omega);simp only[fF,Vw.ds,pG,Cg.ds,zU,zV] at Hs;unfold Ar;simp only[fF,Vw.ds,pG,Cg.ds,zU,zV];refine wR ?_;simp only[xq,reduceIte,qE,qA,qL,qD];refine cN ?_;refine wR ?_;simp only[xq,reduceIte,qE,qA,qL,qD];refine cL rfl (fun hk=>?_) (fun hk=>cQ ?_)
 ·have hk:c.kind=3:=by simpa using hk
  refine wR ?_;simp only[xq,reduceIte,qE,qA,qL,qD];refine dF (Hs hk) rfl ?_;simp only[xq,reduceIte,qE,qA,qL,qD];refine cT (.tmp ?_ rfl);simp only[cJ,reduceIte]
 have hk3:¬ c.kind=3:=by simpa using hk
 simp only[xq,reduceIte,qE,qA,qL,qD];refine cN ?_;refine wR ?_;simp only[xq,reduceIte,qE,qA,qL,qD];refine dF (Hi c.kind 1 4) rfl ?_;simp only[xq,reduceIte,qE,qA,qL,qD];refine cL rfl (fun hk=>?_) (fun hk=>cQ ?_)
 ·have hk:btw c.kind 1 4=false:=by simpa using hk
  refine wR ?_;simp only[xq,reduceIte,qE,qA,qL,qD];refine cT (.tmp ?_ rfl);simp only[cJ,reduceIte,iM,hk,aE]
 have hkb:btw c.kind 1 4=true:=by simpa using hk
 have hk4:=fP.1 hkb;simp only[xq,reduceIte,qE,qA,qL,qD];let S:Nat→Bool→St:=fun n z=>⟨dB [(2,.ptr 0 1 0 0),(3,.ptr 1 1 0 0),(n,.bool z)],[fX v,iA c]⟩;refine cN (eJ (· = S 50 (!blankG c)) (Pr fun K hK=>?_) ?_)
 ·obtain⟨b1,h1⟩:∃ z,z = !decide (c.gl=[]):=⟨_,rfl⟩;obtain⟨b2,h2⟩:∃ z,z=(b1||(!decide (c.kind=2) && !decide (c.upto=0))):=⟨_,rfl⟩;obtain⟨b3,h3⟩:∃ z,z=(b2||(decide (c.kind=1) && !decide (c.count=0))):=⟨_,rfl⟩;have h4:(b3||(decide (c.kind=2) && !decide (c.col=0))) = !blankG c:=by
   rw[h3,h2,h1,blankG]
   by_cases k1:c.kind=1
   ·simp[k1];cases decide (c.gl=[])<;>cases decide (c.upto=0)<;>cases decide (c.count=0)<;>rfl
   by_cases k2:c.kind=2
   ·simp[k2];cases decide (c.gl=[])<;>cases decide (c.col=0)<;>rfl
   ·simp[k1,k2,hk3];cases decide (c.gl=[])<;>cases decide (c.upto=0)<;>rfl
  refine eU 5 (· = S 21 b1) rfl (by intro h;cases h) (fun K1 hK1=>?_) ?_
  ·rw[h1] at hK1;simp only[xq,reduceIte,qE,qA,qL,qD,cR,aLn];refine hK1 _ _ (Co.keep _ ?_) rfl;simp[cJ,cK]
  rintro _ rfl;refine eU 10 (· = S 31 b2) rfl (by intro h;cases h) (fun K1 hK1=>?_) ?_
  ·rw[h2] at hK1;cases b1
   ·cases e1:decide (c.kind=2)
    ·rw[e1] at hK1;simp only[S,Cg.ds,xq,reduceIte,qE,qA,qL,qD,e1,cV,zE,aB,aF,aC];refine hK1 _ _ (Co.keep _ ?_) rfl;simp[cJ,cK]
    ·rw[e1] at hK1;simp only[S,Cg.ds,xq,reduceIte,qE,qA,qL,qD,e1,cV,zE,aB,aG,aA];refine hK1 _ _ (Co.keep _ ?_) rfl;simp[cJ,cK]
   ·simp only[S,Cg.ds,xq,reduceIte,qE,qA,qL,qD,cV,zE,aD];refine hK1 _ _ (Co.keep _ ?_) rfl;simp[cJ,cK]
  rintro _ rfl;refine eU 10 (· = S 41 b3) rfl (by intro h;cases h) (fun K1 hK1=>?_) ?_
  ·rw[h3] at hK1;cases b2
   ·cases e1:decide (c.kind=1)
    ·rw[e1] at hK1;simp only[S,Cg.ds,xq,reduceIte,qE,qA,qL,qD,e1,cV,zE,aB,aA];refine hK1 _ _ (Co.keep _ ?_) rfl;simp[cJ,cK]
    ·rw[e1] at hK1;simp only[S,Cg.ds,xq,reduceIte,qE,qA,qL,qD,e1,cV,zE,aB,aC];refine hK1 _ _ (Co.keep _ ?_) rfl;simp[cJ,cK]
   ·simp only[S,Cg.ds,xq,reduceIte,qE,qA,qL,qD,cV,zE,aD];refine hK1 _ _ (Co.keep _ ?_) rfl;simp[cJ,cK]
  rintro _ rfl;refine rX rfl ?_;rw[← h4] at hK;cases b3
  ·cases e1:decide (c.kind=2)
   ·rw[e1] at hK;simp only[S,Cg.ds,xq,reduceIte,qE,qA,qL,qD,e1,cV,zE,aB,aA];refine hK _ ?_;exact⟨rfl,_,Co.keep _ (by simp[cJ,cK]),rfl⟩
   ·rw[e1] at hK;simp only[S,Cg.ds,xq,reduceIte,qE,qA,qL,qD,e1,cV,zE,aB,aC];refine hK _ ?_;exact⟨rfl,_,Co.keep _ (by simp[cJ,cK]),rfl⟩
  ·simp only[S,Cg.ds,xq,reduceIte,qE,qA,qL,qD,cV,zE,aD];refine hK _ ?_;exact⟨rfl,_,Co.keep _ (by simp[cJ,cK]),rfl⟩
 rintro _ rfl;refine cL rfl (fun hd=>?_) (fun hd=>cQ ?_)
 ·have hd:blankG c=false:=by simpa using hd
  refine wR ?_;simp only[xq,reduceIte,qE,qA,qL,qD,S];refine cT (.tmp ?_ rfl);simp only[cJ,reduceIte,iM,hkb,hd,aE]
 have Qd:blankG c=true:=by simpa using hd
 have Im:c.gl=[]:=by
  rw[blankG] at Qd;split at Qd
  ·simp at Qd;exact Qd.2
  ·split at Qd
   ·simp at Qd;exact Qd.2
   ·simp at Qd;exact Qd.2
 have Vf:iM v c=if eM v c then 0 else 2:=by rw[iM,hkb,Qd,Im];rfl
 simp only[xq,reduceIte,qE,qA,qL,qD];refine wR ?_;simp only[xq,reduceIte,qE,qA,qL,qD,S];refine eJ (· = S 5 (eM v c)) ?_ ?_
 ·refine wR ?_;simp only[xq,reduceIte,qE,qA,qL,qD,Cg.ds];refine cS ?_;refine wR ?_;simp only[xq,reduceIte,qE,qA,qL,qD];refine cL rfl (fun hk=>?_) (fun hk=>?_)
  ·have Cb:c.kind=1:=by simpa using hk
   have hrg:eM v c=xV c.col c.row:=by rw[eM,if_pos Cb,aI5]
   rw[hrg];refine cU ?_;simp only[xq,reduceIte,qE,qA,qL,qD,Cg.ds];refine dF (Hz c.col c.row) rfl ?_;simp only[xq,reduceIte,qE,qA,qL,qD];exact⟨_,Co.keep _ (by simp[cJ,cK]),rfl⟩
  have Cb:¬ c.kind=1:=by simpa using hk
  refine wR ?_;simp only[xq,reduceIte,qE,qA,qL,qD];refine cL rfl (fun hk=>?_) (fun hk=>?_)
  ·have Mt:c.kind=2:=by simpa using hk
   refine wR ?_;simp only[xq,reduceIte,qE,qA,qL,qD,Cg.ds];obtain⟨sz,mB⟩:∃ sz,sz=IntKind.i64.wrap (c.upto-c.row):=⟨_,rfl⟩;obtain⟨nz,hnz⟩:∃ nz,nz=IntKind.i64.wrap (0-sz):=⟨_,rfl⟩;rw[← mB];obtain⟨b1,h1⟩:∃ z,z=decide (0≤c.row):=⟨_,rfl⟩;obtain⟨b2,h2⟩:∃ z,z=(b1&&decide (c.row<c.upto)):=⟨_,rfl⟩;obtain⟨b3,h3⟩:∃ z,z=(b2&&decide (c.upto≤v.height)):=⟨_,rfl⟩;obtain⟨b4,h4⟩:∃ z,z=(b3 && !decide (c.count=0)):=⟨_,rfl⟩;obtain⟨b5,h5⟩:∃ z,z=(b4&&decide (c.count<sz)):=⟨_,rfl⟩;have h6:(b5&&decide (nz<c.count))=eM v c:=by
    rw[eM,if_neg Cb,if_pos Mt,h5,h4,h3,h2,h1]
    by_cases Qe:(0≤c.row∧c.row<c.upto)∧c.upto≤v.height
    ·have e1:sz=c.upto-c.row:=by rw[mB];exact cX (by omega)
     have e2:nz=c.row-c.upto:=by rw[hnz,e1,cX (by omega)];omega
     rw[e1,e2]
    ·have:((decide (0≤c.row)&&decide (c.row<c.upto))&&decide (c.upto≤v.height))=false:=by
      rw[Bool.eq_false_iff];intro h;apply Qe;simpa using h
     rw[this];rfl
   let T:Nat→Bool→St:=fun n z=>⟨dB [(2,.ptr 0 1 0 0),(3,.ptr 1 1 0 0),(6,.int sz),(n,.bool z)],[fX v,iA c]⟩;refine Pr fun K hK=>?_;refine eU 4 (· = T 70 b1) rfl (by intro h;cases h) (fun K1 hK1=>?_) ?_
   ·rw[h1] at hK1;simp only[Cg.ds,xq,reduceIte,qE,qA,qL,qD];refine hK1 _ _ (Co.keep _ ?_) rfl;simp[cJ,cK]
   rintro _ rfl;refine eU 7 (· = T 77 b2) rfl (by intro h;cases h) (fun K1 hK1=>?_) ?_
   ·rw[h2] at hK1;cases b1<;>simp only[T,Cg.ds,xq,reduceIte,qE,qA,qL,qD,cV,zE,aA,aC]
    all_goals (refine hK1 _ _ (Co.keep _ ?_) rfl;simp[cJ,cK])
   rintro _ rfl;refine eU 7 (· = T 84 b3) rfl (by intro h;cases h) (fun K1 hK1=>?_) ?_
   ·rw[h3] at hK1;cases b2<;>simp only[T,Vw.ds,Cg.ds,xq,reduceIte,qE,qA,qL,qD,cV,zE,aA,aC]
    all_goals (refine hK1 _ _ (Co.keep _ ?_) rfl;simp[cJ,cK])
   rintro _ rfl;refine eU 5 (· = T 89 b4) rfl (by intro h;cases h) (fun K1 hK1=>?_) ?_
   ·rw[h4] at hK1;cases b3<;>simp only[T,Vw.ds,Cg.ds,xq,reduceIte,qE,qA,qL,qD,cV,zE,aA,aC]
    all_goals (refine hK1 _ _ (Co.keep _ ?_) rfl;simp[cJ,cK])
   rintro _ rfl;refine eU 6 (· = T 95 b5) rfl (by intro h;cases h) (fun K1 hK1=>?_) ?_
   ·rw[h5] at hK1;cases b4<;>simp only[T,Vw.ds,Cg.ds,xq,reduceIte,qE,qA,qL,qD,cV,zE,aA,aC]
    all_goals (refine hK1 _ _ (Co.keep _ ?_) rfl;simp[cJ,cK])
   rintro _ rfl;refine rX rfl ?_;rw[← h6] at hK;cases b5<;>simp only[T,Vw.ds,Cg.ds,xq,reduceIte,qE,qA,qL,qD,cV,zE,aA,aC,← hnz]
   all_goals
    refine hK _ ?_;exact⟨rfl,_,Co.keep _ (by simp[cJ,cK]),rfl⟩
  ·have Mt:¬ c.kind=2:=by simpa using hk
   have aQS:c.kind=4:=by omega
   have hrg:eM v c=((btw c.row 0 (v.height-1)&&btw c.col 0 (v.width-1))&&btw c.count 0 1):=by rw[eM,if_neg Cb,if_neg Mt,if_neg hk3]
   have d4:decide (c.kind=4)=true:=decide_eq_true aQS;refine wR ?_;simp only[xq,reduceIte,qE,qA,qL,qD,d4];refine cL rfl (fun hk=>?_) (fun hk=>by cases hk);rw[hrg];have h1:=Hi c.row 0 (v.height-1);have h2:=Hi c.col 0 (v.width-1);have h3:=Hi c.count 0 1;obtain⟨b1,e1⟩:∃ z,z=btw c.row 0 (v.height-1):=⟨_,rfl⟩;obtain⟨b2,e2⟩:∃ z,z=(b1&&btw c.col 0 (v.width-1)):=⟨_,rfl⟩;have e3:((btw c.row 0 (v.height-1)&&btw c.col 0 (v.width-1))&&btw c.count 0 1)=(b2&&btw c.count 0 1):=by rw[e2,e1]
   rw[e3];refine Pr fun K hK=>?_;refine eU 7 (· = S 110 b1) rfl (by intro h;cases h) (fun K1 hK1=>?_) ?_
   ·rw[e1] at hK1;simp only[Vw.ds,Cg.ds,xq,reduceIte,qE,qA,qL,qD,w1];refine dF (h1) rfl ?_;simp only[xq,reduceIte,qE,qA,qL,qD];refine hK1 _ _ (Co.keep _ ?_) rfl;simp[cJ,cK]
   rintro _ rfl;refine eU 8 (· = S 118 b2) rfl (by intro h;cases h) (fun K1 hK1=>?_) ?_
   ·rw[e2] at hK1;cases b1
    ·simp only[S,Vw.ds,Cg.ds,xq,reduceIte,qE,qA,qL,qD,cV,zE,aA];refine hK1 _ _ (Co.keep _ ?_) rfl;simp[cJ,cK]
    ·simp only[S,Vw.ds,Cg.ds,xq,reduceIte,qE,qA,qL,qD,w2,aC];refine dF (h2) rfl ?_;simp only[xq,reduceIte,qE,qA,qL,qD];refine hK1 _ _ (Co.keep _ ?_) rfl;simp[cJ,cK]
   rintro _ rfl;refine rX rfl ?_;cases b2
   ·simp only[S,Vw.ds,Cg.ds,xq,reduceIte,qE,qA,qL,qD,cV,zE,aA];refine hK _ ?_;exact⟨rfl,_,Co.keep _ (by simp[cJ,cK]),rfl⟩
   ·simp only[S,Vw.ds,Cg.ds,xq,reduceIte,qE,qA,qL,qD,aC];refine dF (h3) rfl ?_;simp only[xq,reduceIte,qE,qA,qL,qD];refine hK _ ?_;exact⟨rfl,_,Co.keep _ (by simp[cJ,cK]),rfl⟩
 rintro _ rfl;refine cN ?_;refine wR ?_;simp only[xq,reduceIte,qE,qA,qL,qD,S];refine cL rfl (fun hd=>?_) (fun hd=>cQ ?_)
 ·have hd:eM v c=false:=by simpa using hd
  refine wR ?_;simp only[xq,reduceIte,qE,qA,qL,qD];refine cT (.tmp ?_ rfl);simp only[cJ,reduceIte,Vf,hd,aE]
 ·have hd:eM v c=true:=by simpa using hd
  simp only[xq,reduceIte,qE,qA,qL,qD];refine wR ?_;simp only[xq,reduceIte,qE,qA,qL,qD];refine cT (.tmp ?_ rfl);simp only[cJ,reduceIte,Vf,hd]
end
section
variable {P:Program}{N:Nat}{Γ:dP}
abbrev aEf(Γ:dP)(P:Program)(f:FuncId):Prop:=∀ (v:Vw) (c:Cg),Ed v→Sm v 50000→(∀ g∈c.gl,g.text.size≤1000)→FnP Γ P f [fF v,pG c] (.int (iM v c))
end
end Go.Proofs.YtlllnjhgjijnkaaGreatDoor.Nx
