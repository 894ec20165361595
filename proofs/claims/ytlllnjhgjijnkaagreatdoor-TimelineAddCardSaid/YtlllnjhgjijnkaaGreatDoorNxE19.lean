import Derived.Test.YtlllnjhgjijnkaaGreatDoorNxE15
import Derived.Test.YtlllnjhgjijnkaaGreatDoorNxW8
set_option linter.all false
open List renaming getElem?_eq_getElem → zB, getElem?_append_right → zG, append_assoc → zS, mem_cons_self → zW, mem_cons_of_mem → zZ, length_cons → za, cons_append → zo, length_nil → zq, length_take → zs
open Bool renaming true_eq_false → zE
open Nat renaming zero_le → zI
open Int renaming toNat_natCast → zQ
open Nat renaming reduceEqDiff → qE, reduceAdd → qA, reduceLT → qL, reduceLeDiff → qD
open Option renaming toList_some → aA, toList_none → aF
open Int renaming mul_le_mul_of_nonneg_right → aB
open List renaming mem_of_mem_take → aC, take_add_one → aD, getElem_mem → aG, take_length → aH, map_append → aI
open Nat renaming add_assoc → aE
namespace Go.Proofs.YtlllnjhgjijnkaaGreatDoor.Nx
open Go
section
variable {P:Program}{N:Nat}{Γ:dP}
theorem aPj{h t:cM}{q:Nat}{X B:HB}:(h.set q X++B::t)[h.length]? = some B:=by rw[zG (by simp)];simp
theorem aPk{h t:cM}{q k:Nat}{X:HB}:(h.set q X++t)[h.length+k]? = t[k]? := by rw[zG (by simp)];simp
theorem u0{h:cM}:∀ B∈h.take 0,HB.under 0 B:=by simp
def lX(c:Cg):Int:=2+max 0 (min c.count 1000)+c.gl.length
theorem uV{c:Cg}{l:List Cg}:gD (c::l)=lX c+gD l:=rfl
theorem Yr:∀ (a b:List Cg),gD (a++b)=gD a+gD b
 | [],b=>by simp[gD]
 | c::a,b=>by rw[zo,uV,uV,Yr a b];omega
theorem Sp{l:List Cg}{i:Nat}(hi:i<l.length):gD (l.take (i+1))=gD (l.take i)+lX l[i]:=by
 rw[aD,zB hi,aA,Yr,uV,gD,Int.add_zero]
theorem Lo:∀ {l:List Cg} {n:Nat},(∀ c∈l,c.gl.length≤n)→0≤gD l∧gD l≤l.length * (1002+n)
 | [],n,_=>by simp[gD]
 | c::l,n,h=>by
  have ih:=Lo (l:=l) (n:=n) fun c hc=>h c (zZ _ hc);have h1:=h c (zW ..);have e:((c::l).length:Int) * (1002+n)=(l.length:Int) * (1002+n)+(1002+n):=by
   rw[za];push_cast;rw[Int.add_mul];omega
  rw[uV,e];unfold lX;omega
theorem aFa{f:FuncId}(H:FnIs P f N [.t 2] uK)(hN:1≤N)(l:List Cg)(hl:l.length≤1000000)(hg:∀ c∈l,c.gl.length≤1000000):FnP Γ P f [eV l] (.int (gD l)):=by
 refine .of_W H (by simpa using hN) ?_;have aLV:∀ i,0≤gD (l.take i)∧gD (l.take i)≤1002000000000:=fun i=>by
  have:=Lo (l:=l.take i) (n:=1000000) fun c hc=>hg c (aC hc);have h1:(l.take i).length≤1000000:=by rw[zs];omega
  have h2:((l.take i).length:Int) * (1002+(1000000:Nat))≤1000000 * (1002+(1000000:Nat)):=aB (by omega) (by omega);omega
 unfold uK;refine wR ?_;simp only[xq,reduceIte,qE,qA,qL,qD];refine wR ?_;simp only[xq,reduceIte,qE,qA,qL,qD];refine cN ?_;refine wR ?_;simp only[xq,reduceIte,qE,qA,qL,qD,dD];refine cS ?_;let S:Nat→St:=fun i=>⟨dB [(3,.int (gD (l.take i))),(6,eV l),(7,.int l.length),(8,.int i)],[]⟩;refine dX (s':=S 0) (Co.keep _ (by simp[cJ,cK,gD])) ?_;refine dN (fun m s=>∃ i,i≤l.length∧m=l.length-i∧s=S i) ⟨0,zI _,rfl,rfl⟩ ?_;rintro m s ⟨i,hi,rfl,rfl⟩;simp only[S];refine wR ?_;simp only[xq,reduceIte,qE,qA,qL,qD];refine cN (cL rfl (fun hc=>cQ ?_) (fun hc=>dJ ?_))
 ·have cY:i<l.length:=by simpa using hc
  have w1:IntKind.i64.wrap ((i:Int)+1)=((i+1:Nat):Int):=by rw[cX (by omega)];omega
  have hb:=aLV i;have Im:=hg _ (aG cY);have Vr:eB false l[i].count 1000=min l[i].count 1000:=by unfold eB;simp only[Bool.false_eq_true,if_false];split<;>omega
  have hm2:eB true 0 (min l[i].count 1000)=max 0 (min l[i].count 1000):=by unfold eB;simp only[if_true];split<;>omega
  have w2:IntKind.i64.wrap (2+max 0 (min l[i].count 1000))=2+max 0 (min l[i].count 1000):=cX (by omega);have w3:IntKind.i64.wrap (2+max 0 (min l[i].count 1000)+l[i].gl.length)=lX l[i]:=by rw[cX (by omega)];rfl
  have w4:IntKind.i64.wrap (gD (l.take i)+lX l[i])=gD (l.take (i+1)):=by rw[Sp cY,cX (by unfold lX;omega)]
  simp only[xq,reduceIte,qE,qA,qL,qD];refine cN (cS ?_);refine wR ?_;simp only[xq,reduceIte,qE,qA,qL,qD,dD,jP cY,Cg.ds,zQ];refine⟨by omega,by omega,?_⟩;refine cU ?_;simp only[xq,reduceIte,qE,qA,qL,qD,Vr,hm2,w2,w3,w4,cR];refine cU ?_;simp only[xq,reduceIte,qE,qA,qL,qD,w1];exact⟨l.length-(i+1),S (i+1),by omega,Co.to _ 0 (by simp[cJ,cK,A.under]) (zI _) (zI _) u0,i+1,cY,rfl,rfl⟩
 ·have gZ:i=l.length:=by simp at hc;omega
  subst gZ;simp only[xq,reduceIte,qE,qA,qL,qD];refine wR ?_;simp only[xq,reduceIte,qE,qA,qL,qD];refine cT (.tmp ?_ rfl);simp only[cJ,reduceIte,aH,xq,reduceIte,qE,qA,qL,qD]
theorem aDR{f ft:FuncId}(H:FnIs P f N [.c 6 6 true] (pR ft))(hN:3≤N)(Ht:∀ l:List Gl,FnP Γ P ft [.d (.sl dW (cP l))] (.d (.sl dW (cP (dE l)))))(row:Int)(a b:List Gl) :
  FnP Γ P f [.int row,.d (.sl dW (cP a)),.d (.sl dW (cP b))] (pG (lL row a b)):=by
 refine .of_W H (by simpa using hN) ?_;unfold pR;refine wR ?_;simp only[xq,reduceIte,qE,qA,qL,qD];refine wR ?_;simp only[xq,reduceIte,qE,qA,qL,qD];refine dF (Ht a) rfl ?_;simp only[xq,reduceIte,qE,qA,qL,qD,cR];refine dF (Ht b) rfl ?_;simp only[xq,reduceIte,qE,qA,qL,qD];refine cT ⟨.inr rfl,?_⟩;simp only[dK,eH,dM,xq,reduceIte,qE,qA,qL,qD,dI];exact .same rfl
theorem rD{a b:List Cg}:eP (a++b)=eP a++eP b:=by simp[eP]
abbrev fT(l:List Cg):HB:=.cells Bp ((eP l).map fun r=>r.map A.d)
theorem uX{l:List Cg}:((eP l).map fun r=>r.map A.d).length=l.length:=by simp[eP]
theorem aCc(row:Int):∀ (m:Int) (a b:List Edt),kD row m (a++b)=kD row m a++kD row (m+(a.map fun e=>(e.ins.length:Int)-e.del).sum) b
 | m,[],b=>by simp[kD]
 | m,e::a,b=>by
  rw[zo,kD,aCc row _ a b,kD,zo];congr 3;simp only[List.map_cons,List.sum_cons];omega
def De(es:List Edt):Int:=(es.map fun e=>(e.ins.length:Int)-e.del).sum
theorem aCd{es:List Edt}{i:Nat}(hi:i<es.length):De (es.take (i+1))=De (es.take i)+((es[i].ins.length:Int)-es[i].del):=by
 simp only[De];rw[aD,zB hi,aA,aI,List.sum_append];simp
theorem Ys{row:Int}{es:List Edt}{i:Nat}(hi:i<es.length):kD row 0 (es.take (i+1))=kD row 0 (es.take i)++[⟨3,row,(es[i].at':Int)+De (es.take i),es[i].del,0,es[i].ins⟩]:=by
 rw[aD,zB hi,aA,aCc,Int.zero_add];rfl
theorem uY{row:Int}:∀ {es:List Edt} {m:Int},(kD row m es).length=es.length
 | [],_=>rfl
 | e::es,m=>by rw[kD,za,uY,za]
structure EdsOk(n:Nat)(es:List Edt):Prop where
 len:es.length≤n
 at':∀ e∈es,e.at'≤n
 del:∀ e∈es,e.del≤n
 ins:∀ e∈es,e.ins.length≤n
theorem aAs{n:Nat}:∀ {es:List Edt},(∀ e∈es,e.del≤n)→(∀ e∈es,e.ins.length≤n) → -((es.length:Int) * n)≤De es∧De es≤es.length * n
 | [],_,_=>by simp[De]
 | e::es,h1,h2=>by
  have ih:=aAs (es:=es) (fun x hx=>h1 x (zZ _ hx)) (fun x hx=>h2 x (zZ _ hx));have a:=h1 e (zW ..);have b:=h2 e (zW ..);have e1:De (e::es)=((e.ins.length:Int)-e.del)+De es:=by simp[De]
  have e2:((e::es).length:Int) * n=(es.length:Int) * n+n:=by rw[za];push_cast;rw[Int.add_mul];omega
  rw[e1,e2];omega
theorem Jz{row:Int}:∀ {es:List Edt} {m:Int} {c:Cg},c∈kD row m es→∃ e∈es,c.gl=e.ins
 | [],_,c,h=>by simp[kD] at h
 | e::es,m,c,h=>by
  rw[kD,List.mem_cons] at h;rcases h with rfl | h
  ·exact⟨e,zW .., rfl⟩
  ·obtain⟨e',h1,h2⟩:=Jz h;exact⟨e',zZ _ h1,h2⟩
def Sq(h:cM)(l:List Cg)(x:A):Prop:=(x = .nil∧l=[])∨∃ q,x = .ref q l.length 0 l.length true∧h[q]? = some (fT l)∧l≠[]
theorem Sq.frz{h:cM}{l:List Cg}{x:A}(o:Sq h l x):FrzA 0 h x (eV l):=by
 rcases o with⟨rfl,rfl⟩ | ⟨q,rfl,hq,_⟩
 ·exact .d (.nil _)
 ·have:=iJ (id:=q) (full:=true) (e:=Bp) hq;rw[dD] at this;exact this
set_option maxHeartbeats 1000000 in
theorem aDS{f ft fs fc fr fk:FuncId}(H:FnIs P f N [.t 6] (pP ft fs fc fr fk))(hN:3≤N)(Ht:∀ l:List Gl,FnP Γ P ft [.d (.sl dW (cP l))] (.d (.sl dW (cP (dE l)))))
  (row:Int) (a b:List Gl) (Vo:EdsOk 200000 (mH (dE a) (dE b))) (hb:b.length≤1000000)
  (Hs:FnP Γ P fs [.d (.sl dW (cP (dE a))),.d (.sl dW (cP (dE b)))] (.d (.sl tD (pX (mH (dE a) (dE b))))))
  (Hc:∀ l:List Gl,FnP Γ P fc [.d (.sl dW (cP l))] (.d (.sl dW (cP l)))) (Hr:∀ a b,FnP Γ P fr [.int row,.d (.sl dW (cP a)),.d (.sl dW (cP b))] (pG (lL row a b)))
  (Hk:∀ l:List Cg,l.length≤1000000→(∀ c∈l,c.gl.length≤1000000)→FnP Γ P fk [eV l] (.int (gD l))):FnP Γ P f [.int row,.d (.sl dW (cP a)),.d (.sl dW (cP b))] (eV (eQ row a b)):=by
 refine .of_W H (by simpa using hN) ?_;obtain⟨es,aHz⟩:∃ es,es=mH (dE a) (dE b):=⟨_,rfl⟩;rw[← aHz] at Vo Hs;have hmv:∀ i, -40000000000≤De (es.take i)∧De (es.take i)≤40000000000:=fun i=>by
  have:=aAs (n:=200000) (es:=es.take i) (fun e he=>Vo.del e (aC he)) (fun e he=>Vo.ins e (aC he));have h1:(es.take i).length≤200000:=by have:=Vo.len;rw[zs];omega
  have h2:((es.take i).length:Int) * ((200000:Nat):Int)≤200000 * ((200000:Nat):Int):=aB (by omega) (by omega);omega
 unfold pP;refine wR ?_;simp only[xq,reduceIte,qE,qA,qL,qD];refine wR ?_;simp only[xq,reduceIte,qE,qA,qL,qD];refine dF (Ht a) rfl ?_;simp only[xq,reduceIte,qE,qA,qL,qD];refine dF (Ht b) rfl ?_;simp only[xq,reduceIte,qE,qA,qL,qD];refine wR ?_;simp only[xq,reduceIte,qE,qA,qL,qD];refine wR ?_;simp only[xq,reduceIte,qE,qA,qL,qD];refine cN ?_;refine wR ?_;simp only[xq,reduceIte,qE,qA,qL,qD];refine dF (Hs) rfl ?_;simp only[xq,reduceIte,qE,qA,qL,qD];simp only[vS];refine cS ?_;let S:A→cM→Nat→St:=fun x h i=>⟨dB [(0,.int row),(1,.d (.sl dW (cP (dE a)))),(2,.d (.sl dW (cP (dE b)))),(7,x),(8,.int (De (es.take i))),(18,.d (.sl tD (pX es))),(19,.int es.length),(20,.int i)],h⟩;refine dX (s':=S .nil [] 0) (Co.keep _ (by simp[cJ,cK,De])) ?_;refine dN (fun m s=>∃ i x h,i≤es.length∧m=es.length-i∧s=S x h i∧Sq h (kD row 0 (es.take i)) x) ⟨0,.nil,[],zI _,rfl,rfl,.inl ⟨rfl,rfl⟩⟩ ?_;rintro m s ⟨i,x,h,hi,rfl,rfl,ho⟩;simp only[S];refine wR ?_;simp only[xq,reduceIte,qE,qA,qL,qD];refine cN (cL rfl (fun hc=>cQ ?_) (fun hc=>dJ ?_))
 ·have cY:i<es.length:=by simpa using hc
  have hme:=aG cY;have h1:=Vo.len;have h2:=Vo.at' _ hme;have h3:=Vo.del _ hme;have h4:=Vo.ins _ hme;have hm:=hmv i;have w1:IntKind.i64.wrap ((i:Int)+1)=((i+1:Nat):Int):=by rw[cX (by omega)];omega
  have w2:IntKind.i64.wrap ((es[i].at':Int)+De (es.take i))=(es[i].at':Int)+De (es.take i):=cX (by omega);have w3:IntKind.i64.wrap ((es[i].ins.length:Int)-(es[i].del:Int))=(es[i].ins.length:Int)-(es[i].del:Int):=cX (by omega);have w4:IntKind.i64.wrap (De (es.take i)+((es[i].ins.length:Int)-(es[i].del:Int)))=De (es.take (i+1)):=by rw[aCd cY];exact cX (by omega)
  simp only[xq,reduceIte,qE,qA,qL,qD];refine cN (cS ?_);refine wR ?_;simp only[xq,reduceIte,qE,qA,qL,qD,vS,aCb cY,aIK,zQ,dA,eE];refine⟨by omega,by omega,?_⟩;let c:Cg:=⟨3,row,(es[i].at':Int)+De (es.take i),es[i].del,0,es[i].ins⟩;have Zg:kD row 0 (es.take (i+1))=kD row 0 (es.take i)++[c]:=Ys cY;have hcn:kD row 0 (es.take (i+1))≠[]:=by rw[Zg];simp
  have vY:(es.take i).length=i:=by rw[zs];omega
  rcases ho with⟨rfl,kG⟩ | ⟨q,rfl,hq,fM⟩
  ·have aPC:kD row 0 (es.take (i+1))=[c]:=by rw[Zg,kG];rfl
   refine cN (eD (by simp) ?_);simp only[xq,reduceIte,qE,qA,qL,qD,dA,fC,iV,zS,aE,w2];refine dF (Hc es[i].ins) rfl ?_;simp only[xq,reduceIte,qE,qA,qL,qD,dA,fC,iV,zS,aE];rw[if_neg (by simp)];refine⟨by decide,by decide,?_⟩;refine cU ?_;simp only[xq,reduceIte,qE,qA,qL,qD,dA,fC,cR,w3,w4];refine cU ?_;simp only[xq,reduceIte,qE,qA,qL,qD,w1];refine⟨es.length-(i+1),S (.ref (h.length+2) 1 0 1 true) _ (i+1),by omega,Co.keep _ (by simp[cJ,cK]),i+1,_,_,cY,rfl,rfl,.inr ⟨h.length+2,?_,?_,hcn⟩⟩
   ·rw[aPC];rfl
   ·rw[aPC,fC];rfl
  ·have gq:∀ t:cM,(h++t)[q]? = some (fT (kD row 0 (es.take i))):=fun t=>fB hq;have Et:=(List.getElem?_eq_some_iff.1 hq).1;have sq:∀ (t:cM) X,(h++t).set q X=h.set q X++t:=fun t X=>List.set_append_left _ _ Et;refine cN (eD (by simp) ?_);simp only[xq,reduceIte,qE,qA,qL,qD,dA,fC,iV,zS,aE,w2];refine dF (Hc es[i].ins) rfl ?_;simp only[xq,reduceIte,qE,qA,qL,qD,dA,fC,iV,zS,aE,gq,sq,uX,dD,uY,vY];refine⟨by simp only[dL];omega,by simp only[maxLen];omega,?_⟩;refine cU ?_;simp only[xq,reduceIte,qE,qA,qL,qD,aPj,aPk,cR,w3,w4];refine cU ?_;simp only[xq,reduceIte,qE,qA,qL,qD,w1];refine⟨es.length-(i+1),S (.ref q (i+1) 0 (i+1) true) _ (i+1),by omega,Co.keep _ (by simp[cJ,cK]),i+1,_,_,cY,rfl,rfl,.inr ⟨q,?_,?_,hcn⟩⟩
   ·rw[uY,zs];congr 1<;>omega
   ·show(h.set q _++_)[q]? = _;rw[List.getElem?_append_left (by simpa using Et),List.getElem?_set_self Et,Zg];simp only[fT,rD,aI];rfl
 ·have gZ:i=es.length:=by simp at hc;omega
  subst gZ;simp only[xq,reduceIte,qE,qA,qL,qD];rw[aH] at ho;obtain⟨out,aA3⟩:∃ out,out=kD row 0 es:=⟨_,rfl⟩;rw[← aA3] at ho;have hol:out.length=es.length:=by rw[aA3,uY]
  have gZ:=Vo.len;have hog:∀ c∈out,c.gl.length≤1000000:=fun c Xg=>by
   rw[aA3] at Xg;obtain⟨e,h1,h2⟩:=Jz Xg;have:=Vo.ins e h1;rw[h2];omega
  have hwg:(lL row (dE a) (dE b)).gl.length≤1000000:=by
   have h1:=iG (dE b);have h2:=iG b;show(dE (dE b)).length≤_;omega
  obtain⟨wg,Xo⟩:∃ wg,wg=lL row (dE a) (dE b):=⟨_,rfl⟩;have hR:=Hr (dE a) (dE b);have hsp:eQ row a b=if out≠[]∧gD [wg]<gD out then [wg] else out:=by
   unfold eQ;rw[aA3,aHz,Xo]
  have hK1:FnD Γ.ctx P fk [.ref h.length 1 0 1 true] (h++[fT [wg]]) (.int (gD [wg])) (h++[fT [wg]]) :=
   (Hk [wg] (by simp) (by simp;rw[Xo];exact hwg)).lend Si (.cons (iJ (id:=h.length) (full:=true) (e:=Bp) (rows:=eP [wg]) (by rw[dA])) .nil)
  have hK2:FnD Γ.ctx P fk [x] (h++[fT [wg]]) (.int (gD out)) (h++[fT [wg]]) :=
   (Hk out (by omega) hog).lend Si (.cons (Sq.frz (by
    rcases ho with ho | ⟨q,h1,h2,h3⟩
    ·exact .inl ho
    ·exact .inr ⟨q,h1,fB h2,h3⟩)) .nil)
  rw[hsp];rw[← Xo] at hR;simp only[pG,Cg.ds,List.map_cons,List.map_nil] at hR;refine wR ?_;simp only[xq,reduceIte,qE,qA,qL,qD];refine dF (hR) rfl ?_;simp only[xq,reduceIte,qE,qA,qL,qD];have fin:∀ sl:Nat→A,sl 7=x→W Γ.ctx P N none 0 (.seq (.reg [
   { dst:=some 63,op:=.mov (.t 7) },
   { dst:=some 6,op:=.mov (.t 63) }]) .ret) (Bw [.t 6] (eV out)) ⟨sl,h++[fT [wg]]⟩:=fun sl h7=>by
   refine wR ?_;simp only[xq,reduceIte,qE,qA,qL,qD,h7];refine cT (.frz ?_);simp only[xq,reduceIte,qE,qA,qL,qD];refine Sq.frz (h:=h++[fT [wg]]) ?_;rcases ho with ho | ⟨q,h1,h2,h3⟩
   ·exact .inl ho
   ·exact .inr ⟨q,h1,fB h2,h3⟩
  rcases ho with⟨rfl,kG⟩ | ⟨q,rfl,hq,fM⟩
  ·rw[kG,if_neg (by simp),← kG];refine cN ?_;refine wR ?_;simp only[xq,reduceIte,qE,qA,qL,qD,cV,zE,dA];refine cL rfl (fun hd=>by cases hd) (fun _=>cQ ?_);simp only[xq,reduceIte,qE,qA,qL,qD];exact fin _ rfl
  ·have sD:decide (0<(out.length:Int))=true:=by
    have:out.length≠0:=fun h=>fM (List.eq_nil_of_length_eq_zero h);exact decide_eq_true (by omega)
   have gq:∀ t:cM,(h++t)[q]? = some (fT out):=fun t=>fB hq;refine cN ?_;refine wR ?_;simp only[xq,reduceIte,qE,qA,qL,qD,cV,zE,gq,dD,sD];refine qJ hK1 ?_;simp only[xq,reduceIte,qE,qA,qL,qD,sD];refine qJ hK2 ?_;simp only[xq,reduceIte,qE,qA,qL,qD,sD];refine cL rfl (fun hd=>?_) (fun hd=>cQ ?_)
   ·have hd:gD [wg]<gD out:=by simpa using hd
    rw[if_pos ⟨fM,hd⟩];refine wR ?_;simp only[xq,reduceIte,qE,qA,qL,qD];refine cT (.frz ?_);simp only[xq,reduceIte,qE,qA,qL,qD];exact iJ (id:=h.length) (full:=true) (e:=Bp) (rows:=eP [wg]) (by rw[dA])
   ·have hd:¬ gD [wg]<gD out:=by simpa using hd
    rw[if_neg (fun h=>hd h.2)];simp only[xq,reduceIte,qE,qA,qL,qD];exact fin _ rfl
end
section
variable {P:Program}{N:Nat}{Γ:dP}
theorem Pw:∀ (s:List (Nat × Nat)) (b:List Gl) (cur:Option Edt),(Pu s b cur).length≤s.length+cur.toList.length
 | [],b,cur=>by simp[Pu]
 | (k,i)::s,b,cur=>by
  rw[Pu];split
  ·have:=Pw s (b.drop 1) none;simp only[List.length_append,za,aF,zq] at this ⊢;omega
  ·split
   ·have:=Pw s b (some (Yf i cur));simp only[za,aA,zq] at this ⊢;omega
   ·have:=Pw s (b.drop 1) (some (Yg i (b.take 1) cur));simp only[za,aA,zq] at this ⊢;omega
theorem aAt{A B:List Gl}:∀ {es:List Edt} {i j:Nat},Jp A B i j es→∀ e∈es,e.at'+e.del≤A.length∧e.ins.length≤B.length
 | [],_,_,_,e,he=>by simp at he
 | e0::es,i,j,h,e,he=>by
  rw[Jp] at h;obtain⟨j1,h1,h2,h3,h4,h5,h6,h7,h8⟩:=h;rcases List.mem_cons.1 he with rfl | he
  ·exact⟨h4,by omega⟩
  ·exact aAt h8 e he
theorem aDT{A B:List Gl}(hA:A.length≤50000)(hB:B.length≤50000):EdsOk 200000 (mH A B):=by
 have hs:=tY (A:=A) (B:=B) _ A B 0 0 none (Nat.le_refl _) rfl rfl (zI _) (zI _) trivial;have hm:=aAt hs;have hl:=Pw (nL A B 0) B none;have hw:=Az A B 0;simp only[aF,zq] at hl;refine⟨?_,fun e he=>?_,fun e he=>?_,fun e he=>?_⟩
 ·show(Pu (nL A B 0) B none).length≤_;omega
 ·have:=(hm e he).1;omega
 ·have:=(hm e he).1;omega
 ·have:=(hm e he).2;omega
theorem Df{row:Int}{a b:List Gl}(ha:a.length≤50000)(hb:b.length≤50000):(eQ row a b).length≤200001:=by
 have h1:=iG a;have h2:=iG b;have:=(aDT (A:=dE a) (B:=dE b) (by omega) (by omega)).len;unfold eQ;simp only;split
 ·simp
 ·rw[uY];omega
theorem aCe{h:cM}{x y x' y':A}(h1:FrzA 0 h x x')(h2:FrzA 0 h y y'):FrzA 0 h (.tup [x,y]) (.tup [x',y']):=by
 refine .tup rfl fun j u hj=>?_;rcases j with _ | _ | j
 ·cases hj;exact h1
 ·cases hj;exact h2
 ·simp at hj
abbrev aLb(Δ:Ctx)(P:Program)(f:FuncId):Prop:=∀ w:Vw,w.rows≠[]→w.rows.length≤1000→∀ h:cM,∃ t id k R,FnD Δ P f [fF w] h (.ptr id 1 0 0) (h++t)∧EdIs (h++t) id w k R∧h.length≤id∧h.length≤(h++t).length∧gK h (h++t) id
abbrev aNx(Δ:Ctx)(P:Program)(f:FuncId):Prop:=∀ w:Vw,w.rows≠[]→w.rows.length≤1000→∀ h:cM,∃ h' id k R,FnD Δ P f [fF w] h (.ptr id 1 0 0) h'∧EdIs h' id w k R∧h.length≤id∧h.length≤h'.length∧gK h h' id
end
end Go.Proofs.YtlllnjhgjijnkaaGreatDoor.Nx
