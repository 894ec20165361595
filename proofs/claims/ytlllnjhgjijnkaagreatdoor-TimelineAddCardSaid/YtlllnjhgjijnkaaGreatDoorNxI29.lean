import Derived.Test.YtlllnjhgjijnkaaGreatDoorNxI25
import Derived.Test.YtlllnjhgjijnkaaGreatDoorNxE19
import Derived.Test.YtlllnjhgjijnkaaGreatDoorNxE34
import Derived.Test.YtlllnjhgjijnkaaGreatDoorNxI2
import Derived.Test.YtlllnjhgjijnkaaGreatDoorNxI6
import Derived.Test.YtlllnjhgjijnkaaGreatDoorNxE36
import Derived.Test.YtlllnjhgjijnkaaGreatDoorNxI0
import Derived.Test.YtlllnjhgjijnkaaGreatDoorNxI21
import Derived.Test.YtlllnjhgjijnkaaGreatDoorNxE29
set_option linter.all false
open List renaming getElem?_eq_some_iff → zA, getElem?_eq_getElem → zB, getD_eq_getElem?_getD → zC, append_nil → zP, append_assoc → zS, map_cons → zU, map_nil → zV, length_cons → za, length_append → zb, not_mem_nil → zc, getElem_mem → zi, mem_cons → zp, replicate_zero → zr, length_take → zs, set_append_left → zu
open Bool renaming true_eq_false → zE
open Option.some renaming injEq → zH
open Nat renaming zero_le → zI
open Int renaming toNat_natCast → zQ
open Nat renaming reduceEqDiff → qE, reduceAdd → qA, reduceLT → qL, reduceLeDiff → qD
set_option maxHeartbeats 4000000
open List renaming length_singleton → aA, getElem?_cons_zero → aD, take_succ_cons → aF, mem_of_mem_take → aH, map_append → aI, mem_singleton → aJ, take_zero → aK, take_length → aL, cons_append → aM, nil_append → aN
open And renaming intro → aB
open Bool renaming not_false → aC, not_true → aE
open Int renaming mul_le_mul_of_nonneg_right → aG
namespace Go.Proofs.YtlllnjhgjijnkaaGreatDoor.Nx
open Go
section
variable {P:Program}{N:Nat}{Γ:dP}
theorem aCR{f:FuncId}(H:FnIs P f N [.t 2] mD)(hN:1≤N)(l:List Cg)(hl:l.length≤1000000)(hg:∀ c∈l,c.gl.length≤1000000):FnP Γ P f [eV l] (.int (gD l)):=by
 refine .of_W H (by simpa using hN) ?_;have aLV:∀ i,0≤gD (l.take i)∧gD (l.take i)≤1002000000000:=fun i=>by
  have:=Lo (l:=l.take i) (n:=1000000) fun c hc=>hg c (aH hc);have h1:(l.take i).length≤1000000:=by rw[zs];omega
  have h2:((l.take i).length:Int) * (1002+(1000000:Nat))≤1000000 * (1002+(1000000:Nat)):=aG (by omega) (by omega);omega
 unfold mD;refine wR ?_;simp only[xq,reduceIte,qE,qA,qL,qD];refine wR ?_;simp only[xq,reduceIte,qE,qA,qL,qD];refine cN ?_;refine wR ?_;simp only[xq,reduceIte,qE,qA,qL,qD];refine cS ?_;let S:Nat→St:=fun i=>⟨dB [(0,eV l),(3,.int (gD (l.take i))),(4,.int i)],[]⟩;refine dX (s':=S 0) (Co.keep _ (by simp[cJ,cK,gD])) ?_;refine dN (fun m s=>∃ i,i≤l.length∧m=l.length-i∧s=S i) ⟨0,zI _,rfl,rfl⟩ ?_;rintro m s ⟨i,hi,rfl,rfl⟩;simp only[S];refine cN ?_;refine wR ?_;simp only[xq,reduceIte,qE,qA,qL,qD,dD];refine cL rfl (fun hc=>cQ ?_) (fun hc=>dJ ?_)
 ·have cY:i<l.length:=by simpa using hc
  have w1:IntKind.i64.wrap ((i:Int)+1)=((i+1:Nat):Int):=by rw[cX (by omega)];omega
  have hb:=aLV i;have hb1:=aLV (i+1);have Pl:=Sp cY;have Im:=hg _ (zi cY);obtain⟨c,Kt⟩:∃ c,c=l[i]:=⟨_,rfl⟩;have Cc:(eP l).getD i []=c.ds:=by rw[jP cY,← Kt]
  rw[← Kt] at Pl Im;obtain⟨n0,hn0⟩:∃ n,n=gD (l.take i):=⟨_,rfl⟩;rw[← hn0] at hb Pl;simp only[← hn0];obtain⟨k,hk⟩:∃ k,k=max 0 (min c.count 1000):=⟨_,rfl⟩;have Cb:0≤k∧k≤1000:=by omega
  have w2:IntKind.i64.wrap (n0+2)=n0+2:=cX (by omega);have w3:IntKind.i64.wrap (n0+2+k)=n0+2+k:=cX (by omega);have w4:IntKind.i64.wrap (n0+2+k+c.gl.length)=gD (l.take (i+1)):=by
   rw[cX (by omega),Pl,hk];unfold lX;omega
  simp only[xq,reduceIte,qE,qA,qL,qD];refine cN (cS ?_);refine wR ?_;simp only[xq,reduceIte,qE,qA,qL,qD,dD,Cc,Cg.ds,zQ];refine⟨by omega,by omega,?_⟩;refine eJ (· = ⟨dB [(0,eV l),(3,.int n0),(4,.int i),(5,.int (max 0 c.count))],[]⟩) ?_ ?_
  ·refine wR ?_;simp only[xq,reduceIte,qE,qA,qL,qD];refine cL rfl (fun hd=>?_) (fun hd=>cQ ?_)
   ·have hd:=of_decide_eq_true hd;refine cU ?_;simp only[xq,reduceIte,qE,qA,qL,qD];exact⟨_,Co.keep _ (by simp[cJ,cK,show max 0 c.count=0 by omega]),rfl⟩
   ·have hd:=of_decide_eq_false hd;exact⟨rfl,_,Co.keep _ (by simp[cJ,cK,show max 0 c.count=c.count by omega]),rfl⟩
  rintro _ rfl;refine eJ (· = ⟨dB [(0,eV l),(3,.int n0),(4,.int i),(5,.int k)],[]⟩) ?_ ?_
  ·refine wR ?_;simp only[xq,reduceIte,qE,qA,qL,qD];refine cL rfl (fun hd=>?_) (fun hd=>cQ ?_)
   ·have hd:=of_decide_eq_true hd;refine cU ?_;simp only[xq,reduceIte,qE,qA,qL,qD];exact⟨_,Co.keep _ (by simp[cJ,cK,show k=1000 by omega]),rfl⟩
   ·have hd:=of_decide_eq_false hd;exact⟨rfl,_,Co.keep _ (by simp[cJ,cK,show k=max 0 c.count by omega]),rfl⟩
  rintro _ rfl;refine cU ?_;simp only[xq,reduceIte,qE,qA,qL,qD,dD,Cc,Cg.ds,cR,w2,w3,w4,zQ];refine⟨by omega,by omega,?_⟩;refine cU ?_;simp only[xq,reduceIte,qE,qA,qL,qD,w1];exact⟨l.length-(i+1),S (i+1),by omega,Co.keep _ (by simp[cJ,cK]),i+1,cY,rfl,rfl⟩
 ·have gZ:i=l.length:=by simp at hc;omega
  subst gZ;simp only[xq,reduceIte,qE,qA,qL,qD];refine wR ?_;simp only[xq,reduceIte,qE,qA,qL,qD];refine cT (.tmp ?_ rfl);simp only[cJ,reduceIte,aL,xq,reduceIte,qE,qA,qL,qD]
theorem aJv{e:Edt}{es:List Edt}:De (e::es)=((e.ins.length:Int)-e.del)+De es:=by simp[De]
theorem aJw{A B:List Gl}:∀ {es:List Edt} {i j:Nat} {m:Int},Jp A B i j es→(j:Int)-i=m→∀ (k:Nat) (hk:k<es.length),∃ j1:Nat,(j1:Int)=es[k].at'+(m+De (es.take k))∧j1+es[k].ins.length≤B.length∧es[k].ins=(B.drop j1).take es[k].ins.length
 | [],_,_,_,_,_,k,hk=>by simp at hk
 | e::es,i,j,m,h,hm,k,hk=>by
  rw[Jp] at h;obtain⟨j1,h1,h2,h3,h4,h5,h6,h7,h8⟩:=h;rcases k with _ | k
  ·exact⟨j1,by simp[De];omega,h6,h5⟩
  ·obtain⟨j2,q1,q2,q3⟩:=aJw (m:=m+((e.ins.length:Int)-e.del)) h8 (by omega) k (by simpa using hk);refine⟨j2,?_,q2,q3⟩;simp only[List.getElem_cons_succ,aF,aJv];rw[q1];omega
theorem aAP{f ft fe fn fs fr fk:FuncId}(H:FnIs P f N [.t 6] (nI ft fe fn fs fr fk))(hN:3≤N)(row:Int)(a b:List Gl)(ha:a.length≤50000)(hb:b.length≤50000)
  (Ht:∀ l:List Gl,l.length≤50000→FnP Γ P ft [.d (.sl dW (cP l))] (.d (.sl dW (cP (dE l)))))
  (He:∀ a b:List Gl,FnP Γ P fe [.d (.sl dW (cP a)),.d (.sl dW (cP b))] (.bool (decide (a=b))))
  (Hn:FnP Γ P fn [.d (.sl dW (cP (dE a))),.d (.sl dW (cP (dE b)))] (aLz (dE a) (dE b)))
  (Hs:∀ g:Gl→Int,Sep g (dE a) (dE b)→FnP Γ P fs [.d (.sl fL (eF g (dE a))),.d (.sl fL (eF g (dE b)))] (.d (.sl tD (qB g (mH (dE a) (dE b))))))
  (Hr:FnP Γ P fr [.int row,.d (.sl dW (cP a)),.d (.sl dW (cP b))] (pG (lL row a b)))
  (Hk:∀ l:List Cg,l.length≤1000000→(∀ c∈l,c.gl.length≤1000000)→FnP Γ P fk [eV l] (.int (gD l))):FnP Γ P f [.int row,.d (.sl dW (cP a)),.d (.sl dW (cP b))] (eV (eQ row a b)):=by
 refine .of_W H (by simpa using hN) ?_;obtain⟨A',hA⟩:∃ A',A'=dE a:=⟨_,rfl⟩;obtain⟨B',hB⟩:∃ B',B'=dE b:=⟨_,rfl⟩;have hAl:A'.length≤50000:=by rw[hA];have:=iG a;omega
 have hBl:B'.length≤50000:=by rw[hB];have:=iG b;omega
 have hta:=Ht a ha;have htb:=Ht b hb;rw[← hA] at Hn Hs hta;rw[← hB] at Hn Hs htb;obtain⟨es,aHz⟩:∃ es,es=mH A' B':=⟨_,rfl⟩;have Vo:=aDT hAl hBl;have lG:=tY (A:=A') (B:=B') _ A' B' 0 0 none (Nat.le_refl _) rfl rfl (zI _) (zI _) trivial;have hss:=Hs _ (aJp (a:=A') (b:=B'));obtain⟨g,hgd⟩:∃ g,g=sZ (A'++B'):=⟨_,rfl⟩;unfold aLz at Hn;rw[← hgd] at Hn hss;rw[← aHz] at Vo hss;have lG:Jp A' B' 0 0 es:=by rw[aHz];exact lG
 have hmv:∀ i, -40000000000≤De (es.take i)∧De (es.take i)≤40000000000:=fun i=>by
  have:=aAs (n:=200000) (es:=es.take i) (fun e he=>Vo.del e (aH he)) (fun e he=>Vo.ins e (aH he));have h1:(es.take i).length≤200000:=by have:=Vo.len;rw[zs];omega
  have h2:((es.take i).length:Int) * ((200000:Nat):Int)≤200000 * ((200000:Nat):Int):=aG (by omega) (by omega);omega
 have hsp:eQ row a b=if kD row 0 es≠[]∧gD [lL row a b]<gD (kD row 0 es) then [lL row a b] else kD row 0 es:=by
  unfold eQ;rw[← hA,← hB,aHz];have:lL row A' B'=lL row a b:=by unfold lL;rw[hA,hB,Cx,Cx]
  rw[this]
 unfold nI;refine wR ?_;simp only[xq,reduceIte,qE,qA,qL,qD];refine wR ?_;simp only[xq,reduceIte,qE,qA,qL,qD];refine dF (hta) rfl ?_;simp only[xq,reduceIte,qE,qA,qL,qD];refine dF (htb) rfl ?_;simp only[xq,reduceIte,qE,qA,qL,qD];refine cN ?_;refine wR ?_;simp only[xq,reduceIte,qE,qA,qL,qD];refine dF (He A' B') rfl ?_;simp only[xq,reduceIte,qE,qA,qL,qD];refine cL rfl (fun hd=>?_) (fun hd=>cQ ?_)
 ·have hd:=of_decide_eq_true hd;have:eQ row a b=[]:=by
   rw[← aAn row A'];unfold eQ;rw[← hA,← hB,← hd,hA,Cx]
  rw[this];refine wR ?_;simp only[xq,reduceIte,qE,qA,qL,qD];refine cT (.frz ?_);simp only[xq,reduceIte,qE,qA,qL,qD];exact iJ (id:=0) (full:=true) (e:=Bp) (rows:=[]) rfl
 simp only[xq,reduceIte,qE,qA,qL,qD];refine wR ?_;simp only[xq,reduceIte,qE,qA,qL,qD];refine dF (Hn) rfl ?_;simp only[xq,reduceIte,qE,qA,qL,qD];refine wR ?_;simp only[xq,reduceIte,qE,qA,qL,qD];refine dF (hss) rfl ?_;simp only[xq,reduceIte,qE,qA,qL,qD];refine wR ?_;simp only[xq,reduceIte,qE,qA,qL,qD];refine wR ?_;simp only[xq,reduceIte,qE,qA,qL,qD];refine cN ?_;refine wR ?_;simp only[xq,reduceIte,qE,qA,qL,qD];refine cS ?_;let S:Nat→cM→Nat→St:=fun q t i=>⟨dB [(0,.int row),(1,.d (.sl dW (cP a))),(2,.d (.sl dW (cP b))),(8,.d (.sl dW (cP B'))),(11,.d (.sl tD (qB g es))),(12,.ref q i 0 i true),(13,.int (De (es.take i))),(14,.int i)],t⟩;refine dX (s':=S 0 [fT []] 0) (Co.keep _ (by simp[cJ,cK,De])) ?_;refine dN (fun m s=>∃ i q t,i≤es.length∧m=es.length-i∧s=S q t i∧t[q]? = some (fT (kD row 0 (es.take i)))) ⟨0,0,_,zI _,rfl,rfl,rfl⟩ ?_;rintro m s ⟨i,q,t,hi,rfl,rfl,hq⟩;simp only[S];refine cN ?_;refine wR ?_;simp only[xq,reduceIte,qE,qA,qL,qD,mA];refine cL rfl (fun hc=>cQ ?_) (fun hc=>dJ ?_)
 ·have cY:i<es.length:=by simpa using hc
  have gZ:=Vo.len;have w1:IntKind.i64.wrap ((i:Int)+1)=((i+1:Nat):Int):=by rw[cX (by omega)];omega
  have Et:=(zA.1 hq).1;obtain⟨j1,k1,k2,k3⟩:=aJw (m:=0) lG rfl i cY;obtain⟨e,hed⟩:∃ e,e=es[i]:=⟨_,rfl⟩;have hme:=zi cY;have h2:=Vo.at' _ hme;have h3:=Vo.del _ hme;have h4:=Vo.ins _ hme;have h1:=Vo.len;have hm:=hmv i;have Vr:=hmv (i+1);have hms:=aCd cY;have Zg:=Ys (row:=row) cY;have heg:=aCL (g:=g) cY;rw[← hed] at k1 k2 k3 h2 h3 h4 hms Zg heg;have w2:IntKind.i64.wrap ((e.at':Int)+De (es.take i))=(j1:Int):=by rw[cX (by omega)];omega
  have w3:IntKind.i64.wrap ((j1:Int)+(e.ins.length:Int))=((j1+e.ins.length:Nat):Int):=by rw[cX (by omega)];omega
  have w4:IntKind.i64.wrap (De (es.take i)+(e.ins.length:Int))=De (es.take i)+(e.ins.length:Int):=cX (by omega);have w5:IntKind.i64.wrap (De (es.take i)+(e.ins.length:Int)-(e.del:Int))=De (es.take (i+1)):=by rw[hms,cX (by omega)];omega
  simp only[xq,reduceIte,qE,qA,qL,qD];refine cN (cS ?_);refine wR ?_;simp only[xq,reduceIte,qE,qA,qL,qD,mA,heg,Oh,zQ,w2];refine⟨by omega,by omega,?_⟩;have hsl:((cP B').drop j1).take ((((j1+e.ins.length:Nat):Int)-(j1:Int)).toNat)=cP e.ins:=by
   rw[show(((j1+e.ins.length:Nat):Int)-(j1:Int)).toNat=e.ins.length by omega]
   conv=>rhs;rw[k3]
   simp only[cP,List.map_take,List.map_drop]
  refine wR ?_;simp only[xq,reduceIte,qE,qA,qL,qD,mA,heg,Oh,zQ,w3,dQ,cR,dA,eE,hsl]
  repeat refine aB (by first | omega | (simp only[dL];omega) | (simp only[maxLen];omega)) ?_
  have hqg:(t++[eY e.ins])[q]? = some (fT (kD row 0 (es.take i))):=fB hq;obtain⟨t',Kx⟩:∃ t',t'=Dc q (t++[eY e.ins]):=⟨_,rfl⟩;have hq':t'[q]? = some (fT (kD row 0 (es.take i))):=by rw[Kx];exact Lk hqg
  refine dX (s':=⟨dB [(0,.int row),(1,.d (.sl dW (cP a))),(2,.d (.sl dW (cP b))),(8,.d (.sl dW (cP B'))),(11,.d (.sl tD (qB g es))),(12,.ref q i 0 i true),(13,.int (De (es.take i))),(14,.int i),(15,.int j1),(16,.d (.sl dW (cP e.ins)))],t'⟩) ?_ ?_
  ·rw[Kx];refine Co.gc1 (h:=t++[eY e.ins]) q hqg (fun r hr x hx=>?_) _ fun p hp=>?_
   ·obtain⟨r',_,rfl⟩:=List.mem_map.1 hr;obtain⟨d,_,rfl⟩:=List.mem_map.1 hx;rfl
   ·simp only[zp,zc,or_false] at hp;rcases hp with rfl | rfl | rfl | rfl | rfl | rfl | rfl | rfl | rfl | rfl
    ·left;simp[cJ,cK,A.keptIn]
    ·left;simp[cJ,cK,A.keptIn]
    ·left;simp[cJ,cK,A.keptIn]
    ·left;simp[cJ,cK,A.keptIn]
    ·left;simp[cJ,cK,A.keptIn]
    ·left;simp[cJ,cK,A.keptIn]
    ·left;simp[cJ,cK,A.keptIn]
    ·left;simp[cJ,cK,A.keptIn]
    ·left;simp[cJ,cK,A.keptIn]
    ·right
     simp only[cJ,cK];refine .d (yA (.inr ⟨t.length,rfl,?_⟩));rw[List.getElem?_set_ne (by omega)];simp
  have aPV:=(zA.1 hq').1;have gq:∀ t2:cM,(t'++t2)[q]? = some (fT (kD row 0 (es.take i))):=fun t2=>fB hq';have sq:∀ (t2:cM) X,(t'++t2).set q X=t'.set q X++t2:=fun t2 X=>zu _ _ aPV;have vY:(es.take i).length=i:=by rw[zs];omega
  refine wR ?_;simp only[xq,reduceIte,qE,qA,qL,qD,mA,heg,Oh,zQ,dA,gq,sq,uX,dD,uY,vY,zS]
  repeat refine aB (by first | omega | (simp only[dL];omega) | (simp only[maxLen];omega)) ?_
  refine eD (by simp) ?_;simp only[xq,reduceIte,qE,qA,qL,qD,mA,heg,Oh,zQ,dQ,w4,w5]
  repeat refine aB (by first | omega | (simp only[dL];omega) | (simp only[maxLen];omega)) ?_
  refine cU ?_;simp only[xq,reduceIte,qE,qA,qL,qD,w1];refine⟨es.length-(i+1),S q (t'.set q (.cells Bp (((eP (kD row 0 (es.take i))).map fun r=>r.map A.d)++[[.int 3,.int row,.int j1,.int e.del,.int 0,.d (.sl dW (cP e.ins))]]))++[.cells Bp [[.int 3,.int row,.int j1,.int e.del,.int 0,.d (.sl dW (cP e.ins))]]]) (i+1),by omega,Co.keep _ (by simp[cJ,cK]),i+1,q,_,cY,rfl,rfl,?_⟩;have hj:(e.at':Int)+De (es.take i)=(j1:Int):=by omega
  have:fT (kD row 0 (es.take (i+1))) = .cells Bp (((eP (kD row 0 (es.take i))).map fun r=>r.map A.d)++[[.int 3,.int row,.int j1,.int e.del,.int 0,.d (.sl dW (cP e.ins))]]):=by
   rw[Zg,hj];simp only[fT,rD,aI];rfl
  rw[this];exact xY aPV
 ·have gZ:i=es.length:=by simp at hc;omega
  subst gZ;rw[aL] at hq;obtain⟨out,aA3⟩:∃ out,out=kD row 0 es:=⟨_,rfl⟩;obtain⟨wg,Xo⟩:∃ wg,wg=lL row a b:=⟨_,rfl⟩;rw[← aA3] at hq hsp;rw[← Xo] at hsp Hr;have hol:out.length=es.length:=by rw[aA3,uY]
  have gZ:=Vo.len;have hog:∀ c∈out,c.gl.length≤1000000:=fun c Xg=>by
   rw[aA3] at Xg;obtain⟨e,h1,h2⟩:=Jz Xg;have:=Vo.ins e h1;rw[h2];omega
  have hwg:wg.gl.length≤1000000:=by
   have h1:=iG b;rw[Xo];show(dE b).length≤_;omega
  have hwc:2≤gD [wg]:=by simp only[gD];omega
  have hR:=Hr;simp only[pG,Cg.ds,zU,zV] at hR;simp only[xq,reduceIte,qE,qA,qL,qD];refine wR ?_;simp only[xq,reduceIte,qE,qA,qL,qD];refine dF (hR) rfl ?_;simp only[xq,reduceIte,qE,qA,qL,qD];refine dX (s':=⟨dB [(12,eV out),(17,eV [wg])],[]⟩) (Co.frz (s:=⟨_,t++[fT [wg]]⟩) _ 0 ?_ (zI _) (zI _) (by simp)) ?_
  ·intro p hp;simp only[zp,zc,or_false] at hp;rcases hp with rfl | rfl
   ·simp only[cJ,cK];have:=iJ (id:=q) (full:=true) (e:=Bp) (rows:=eP out) (h:=t++[fT [wg]]) (fB hq);rw[dD,hol] at this;exact this
   ·simp only[cJ,cK];exact iJ (id:=t.length) (full:=true) (e:=Bp) (rows:=eP [wg]) (by rw[dA])
  refine cN ?_;refine wR ?_;simp only[xq,reduceIte,qE,qA,qL,qD];refine dF (Hk out (by omega) hog) rfl ?_;simp only[xq,reduceIte,qE,qA,qL,qD];refine dF (Hk [wg] (by simp) (by simpa using hwg)) rfl ?_;simp only[xq,reduceIte,qE,qA,qL,qD];refine cL rfl (fun hd=>?_) (fun hd=>cQ ?_)
  ·have hd:=of_decide_eq_true hd;have fM:out≠[]:=fun h=>by rw[h] at hd;simp only[gD] at hd;omega
   rw[hsp,if_pos ⟨fM,hd⟩];refine wR ?_;simp only[xq,reduceIte,qE,qA,qL,qD];refine cT (.tmp ?_ rfl);simp only[cJ,cK,reduceIte]
  ·have hd:=of_decide_eq_false hd;rw[hsp,if_neg (fun h=>hd h.2)];simp only[xq,reduceIte,qE,qA,qL,qD];refine wR ?_;simp only[xq,reduceIte,qE,qA,qL,qD];refine cT (.tmp ?_ rfl);simp only[cJ,cK,reduceIte]
end
section
variable {P:Program}{N:Nat}{Γ:dP}
theorem aEv{f fs:FuncId}(H:FnIs P f N [.t 4] (Ap fs))(hN:2≤N)(x b:Vw)(eG:b.rows.length≤x.rows.length)(Qd:b.rows.length≤1000)(hsx:Sm x 50000)(hsb:Sm b 50000)
  (Hs:∀ (row:Int) (a b:List Gl),a.length≤50000→b.length≤50000→FnP Γ P fs [.int row,.d (.sl dW (cP a)),.d (.sl dW (cP b))] (eV (eQ row a b))) :
  FnP Γ P f [fF x,fF b] (eV (iE x b)):=by
 refine .of_W H (by simpa using hN) ?_;unfold Ap;simp only[fF,Vw.ds,zU,zV];refine wR ?_;simp only[xq,reduceIte,qE,qA,qL,qD];refine dX (Lv (a:=x) (b:=b) (t:=[]) (h:=[]) [] (by simp[cJ,cK]) (by simp[cJ,cK]) (by simp)) ?_;refine wR ?_;simp only[xq,reduceIte,qE,qA,qL,qD];refine cN ?_;refine wR ?_;simp only[xq,reduceIte,qE,qA,qL,qD];refine cS ?_;let S:Nat→cM→Nat→Nat→St:=fun q t n i=>⟨dB [(2,.iptr x.ds),(3,.iptr b.ds),(5,.ref q n 0 n true),(6,.int i)],t⟩;refine dX (s':=S 0 [fT []] 0 0) (Co.keep _ (by simp[cJ,cK,Vw.ds])) ?_;refine dN (fun m s=>∃ i q t,i≤b.rows.length∧m=b.rows.length-i∧s=S q t (dY x b i).length i∧(dY x b i).length≤i * 200001∧t[q]? = some (fT (dY x b i))) ⟨0,0,_,zI _,rfl,rfl,by simp[dY],rfl⟩ ?_;rintro m s ⟨i,q,t,hi,rfl,rfl,hn,hq⟩;simp only[S];refine cN ?_;refine wR ?_;simp only[xq,reduceIte,qE,qA,qL,qD,Vw.ds,cW];refine cL rfl (fun hc=>cQ ?_) (fun hc=>dJ ?_)
 ·have cY:i<b.rows.length:=by simpa using hc
  have w1:IntKind.i64.wrap ((i:Int)+1)=((i+1:Nat):Int):=by rw[cX (by omega)];omega
  have aEG:i<x.rows.length:=by omega
  have gx:x.rows.getD i []=x.rows[i]:=by rw[zC,zB aEG];rfl
  have gb:b.rows.getD i []=b.rows[i]:=by rw[zC,zB cY];rfl
  have bx:=hsx.row _ (zi aEG);have bw:=hsb.row _ (zi cY);have hS:=Hs i x.rows[i] b.rows[i] bx bw;obtain⟨nw,hnw⟩:∃ nw,nw=eQ i x.rows[i] b.rows[i]:=⟨_,rfl⟩;have hnl:nw.length≤200001:=by rw[hnw];exact Df bx bw
  rw[← hnw] at hS;have hto:dY x b (i+1)=dY x b i++nw:=by rw[dY,gx,gb,← hnw]
  obtain⟨o,hod⟩:∃ o,o=dY x b i:=⟨_,rfl⟩;rw[← hod] at hq hn hto;simp only[← hod];have Et:=(zA.1 hq).1;have gq:∀ t':cM,(t++t')[q]? = some (fT o):=fun t'=>fB hq;have sq:∀ (t':cM) X,(t++t').set q X=t.set q X++t':=fun t' X=>zu _ _ Et;simp only[xq,reduceIte,qE,qA,qL,qD];refine cN (cS (eD (by simp) ?_));simp only[xq,reduceIte,qE,qA,qL,qD,Vw.ds,cW,eC aEG,eC cY,zQ]
  repeat refine aB (by first | omega | (simp only[dL];omega) | (simp only[maxLen];omega)) ?_
  refine dF (hS) rfl ?_;simp only[xq,reduceIte,qE,qA,qL,qD,dD,gq,sq,uX]
  repeat refine aB (by first | omega | (simp only[dL];omega) | (simp only[maxLen];omega)) ?_
  refine cU ?_;simp only[xq,reduceIte,qE,qA,qL,qD,w1];refine⟨b.rows.length-(i+1),S q (t.set q (fT (o++nw))++[.res]) (o++nw).length (i+1),by omega,?_,i+1,q,t.set q (fT (o++nw))++[.res],cY,rfl,by rw[hto];rfl,by rw[hto,zb];omega,by rw[hto];exact xY Et⟩;have:fT (o++nw) = .cells Bp (((eP o).map fun r=>r.map A.d)++(eP nw).map fun r=>r.map A.d):=by simp only[fT,rD,aI]
  rw[this,zb];exact Co.keep _ (by simp[cJ,cK,Vw.ds])
 ·have gZ:i=b.rows.length:=by simp at hc;omega
  subst gZ;obtain⟨o,hod⟩:∃ o,o=dY x b b.rows.length:=⟨_,rfl⟩;have hrv:iE x b=o++iZ x b:=by rw[iE,hod]
  rw[← hod] at hq hn;simp only[← hod];have Et:=(zA.1 hq).1;simp only[xq,reduceIte,qE,qA,qL,qD];have fin:∀ (sl:Nat→A) (t':cM) (l:List Cg),sl 5 = .ref q l.length 0 l.length true→t'[q]? = some (fT l)→l=iE x b→W Γ.ctx P N none 0 (.seq (.reg [
   { dst:=some 61,op:=.mov (.t 5) },
   { dst:=some 4,op:=.mov (.t 61) }]) .ret) (Bw [.t 4] (eV (iE x b))) ⟨sl,t'⟩:=fun sl t' l h5 hq' hl=>by
   refine wR ?_;simp only[xq,reduceIte,qE,qA,qL,qD,h5];refine cT (.frz ?_);simp only[xq,reduceIte,qE,qA,qL,qD];rw[← hl];have:=iJ (id:=q) (full:=true) (e:=Bp) (rows:=eP l) hq';rw[dD] at this;exact this
  refine cN ?_;refine eJ (fun s'=>∃ c:Bool,(c=true↔¬ (x.row=b.row∧x.col=b.col∧x.vis=b.vis))∧s'=⟨dB [(3,.iptr b.ds),(5,.ref q o.length 0 o.length true),(48,.bool c)],t⟩) (cU ?_) ?_
  ·cases e1:decide (x.row=b.row)
   ·simp only[xq,reduceIte,qE,qA,qL,qD,Vw.ds,e1,cV,zE,aC,aE];exact⟨_,Co.keep _ (by simp[cJ,cK]),true,by simp[of_decide_eq_false e1],rfl⟩
   ·cases e2:decide (x.col=b.col)
    ·simp only[xq,reduceIte,qE,qA,qL,qD,Vw.ds,e1,e2,cV,zE,aC,aE];exact⟨_,Co.keep _ (by simp[cJ,cK]),true,by simp[of_decide_eq_false e2],rfl⟩
    ·simp only[xq,reduceIte,qE,qA,qL,qD,Vw.ds,e1,e2,cV,zE,aC,aE];exact⟨_,Co.keep _ (by simp[cJ,cK];rfl), !(x.vis == b.vis),by simp[of_decide_eq_true e1,of_decide_eq_true e2],rfl⟩
  rintro _ ⟨c,Kt,rfl⟩;refine cL rfl (fun hd=>?_) (fun hd=>cQ ?_)
  ·let cc:Bool→Cg:=fun v=>⟨4,b.row,b.col,if v then 1 else 0,0,[]⟩;have hcv:iZ x b=[cc b.vis]:=by rw[iZ,if_neg (Kt.1 hd)]
   refine wR ?_;simp only[xq,reduceIte,qE,qA,qL,qD,Vw.ds,dA,eE];refine dX (Co.viewLast (r2:=(cc false).ds.map .d) [(3,.iptr b.ds),(5,.ref q o.length 0 o.length true),(7,.ptr t.length 1 0 0)] (by simp[cJ,cK,Vw.ds]) rfl ?_) ?_
   ·intro j y hj;rcases j with _ | _ | _ | _ | _ | _ | j
    ·cases hj;exact .inl rfl
    ·cases hj;exact .inl rfl
    ·cases hj;exact .inl rfl
    ·cases hj;exact .inl rfl
    ·cases hj;exact .inl rfl
    ·cases hj;exact .inr ⟨.nil _,_,rfl⟩
    ·simp[cc,Cg.ds] at hj
   refine eJ (· = ⟨dB [(5,.ref q o.length 0 o.length true),(7,.ptr t.length 1 0 0)],t++[iA (cc b.vis)]⟩) ?_ ?_
   ·refine wR ?_;simp only[xq,reduceIte,qE,qA,qL,qD,Vw.ds];refine cL rfl (fun hb=>?_) (fun hb=>cQ ?_)
    ·rw[hb];refine cU ?_;simp only[xq,reduceIte,qE,qA,qL,qD,dA,eE,cc,Cg.ds];exact⟨_,Co.keep _ (by simp[cJ,cK]),rfl⟩
    ·rw[hb];exact⟨rfl,_,Co.keep _ (by simp[cJ,cK]),rfl⟩
   rintro _ rfl;generalize cc b.vis=c at hcv;have gq:∀ t':cM,(t++t')[q]? = some (fT o):=fun t'=>fB hq;have sq:∀ (t':cM) X,(t++t').set q X=t.set q X++t':=fun t' X=>zu _ _ Et;refine cU ?_;simp only[xq,reduceIte,qE,qA,qL,qD,dA,eT,Cg.ds,gq,sq,uX,dD,zS,zb,aA]
   repeat refine aB (by first | omega | (simp only[dL];omega) | (simp only[maxLen];omega)) ?_
   refine fin _ _ (o++[c]) (by simp[cJ,cK]) ?_ (by rw[hrv,hcv]);rw[xY Et];simp only[fT,rD,aI];rfl
  ·have hcv:iZ x b=[]:=by
    rw[iZ,if_pos];exact Decidable.byContradiction fun h=>by rw[Kt.2 h] at hd;cases hd
   simp only[xq,reduceIte,qE,qA,qL,qD];exact fin _ _ o (by simp[cK]) hq (by rw[hrv,hcv,zP])
end
section
variable {P:Program}{N:Nat}{Γ:dP}
theorem aCS{f fv ff fs fw:FuncId}(H:FnIs P f N [.c 4 6 true,.t 5,.t 6] (mX fv ff fs fw))(hN:2≤N)(Hv:sY Γ P fv)(Hf:aEf Γ P ff)(Hs:aAO Γ P fs)(Hw:∀ l:List Gl,FnP Γ P fw [.d (.sl dW (cP l))] (.int (dG l)))
  {v w:Vw} {c:Cg} (sv:Sm v 50000) (hk:dO v=0) (hc:iM v c=0) (hw:w=dV v c) (Xo:tC w=false) (Ip:∀ g∈c.gl,g.text.size≤1000) (dZ:StepPre v c) {h:cM} {q:Nat} (hq:h[q]? = some (fT [c])) :
  FnD Γ.ctx P f [fF v,.ref q 1 0 1 true] h (apA (w,0,0)) (h++[fX w,fX w]):=by
 refine .of_W H (by simpa using hN) (zI _) ?_;obtain⟨hed,_⟩:=fH.1 hk;have hew:Ed w:=by rw[hw];exact hed.step hc
 have hwl:=hew.len;have hws:=gF.1 hew.sz;have hv0:=Hv v sv;have hC:=Hf v c hed sv Ip;have hS:=Hs v c dZ;rw[← hw] at hS;rw[hk] at hv0;rw[hc] at hC;have gq:∀ t:cM,(h++t)[q]? = some (.cells Bp [c.ds.map .d]):=fun t=>fB hq;simp only[fF,Vw.ds,pG,Cg.ds,zU,zV] at hv0 hC hS gq;unfold mX;simp only[fF,Vw.ds,zU,zV];refine wR ?_;simp only[xq,reduceIte,qE,qA,qL,qD,dA,eT,eE,rW,zS];refine cN ?_;refine wR ?_;simp only[xq,reduceIte,qE,qA,qL,qD,dA,eT,eE,rW];refine dF (hv0) rfl ?_;simp only[xq,reduceIte,qE,qA,qL,qD];refine cL rfl (fun hd=>by cases hd) (fun hd=>cQ ?_);simp only[xq,reduceIte,qE,qA,qL,qD];refine cN ?_;refine wR ?_;simp only[xq,reduceIte,qE,qA,qL,qD];refine cS ?_;let S:Vw→Nat→St:=fun u i=>⟨dB [(1,.ref q 1 0 1 true),(2,.ptr h.length 1 0 0),(4,.ptr (h.length+1) 1 0 0),(7,.int i)],h++[fX u,jJ]⟩;refine dX (s':=S v 0) (Co.keep _ (by simp[cJ,cK])) ?_;refine dN (fun m s=>(m=1∧s=S v 0)∨(m=0∧s=S w 1)) (.inl ⟨rfl,rfl⟩) ?_;rintro m s (⟨rfl,rfl⟩ | ⟨rfl,rfl⟩)
 ·simp only[S];refine cN (cN ?_);refine cU ?_;simp only[xq,reduceIte,qE,qA,qL,qD,gq,aA];refine cL rfl (fun hd=>cQ ?_) (fun hd=>by cases hd);have w1:IntKind.i64.wrap (((0:Nat):Int)+1)=((1:Nat):Int):=by decide
  simp only[xq,reduceIte,qE,qA,qL,qD];refine cN (cS ?_);refine cN ?_;refine cN (eD (by simp) ?_);simp only[xq,reduceIte,qE,qA,qL,qD,Vw.ds,gq,dA,eT,zQ,zr,zP,aA,Nat.zero_add,aD]
  repeat refine aB (by first | omega | decide) ?_
  refine dF (hC) rfl ?_;simp only[xq,reduceIte,qE,qA,qL,qD];refine wR ?_;simp only[xq,reduceIte,qE,qA,qL,qD];refine cL rfl (fun hd=>by cases hd) (fun hd=>cQ ?_);simp only[xq,reduceIte,qE,qA,qL,qD];refine eD (by simp) ?_;simp only[xq,reduceIte,qE,qA,qL,qD,Vw.ds,gq,dA,eT,zQ,zr,zP,aA,Nat.zero_add,aD]
  repeat refine aB (by first | omega | decide) ?_
  refine dF (hS) rfl ?_;simp only[xq,reduceIte,qE,qA,qL,qD,Vw.ds,dA,eE];refine cU ?_;simp only[xq,reduceIte,qE,qA,qL,qD,w1];exact⟨0,S w 1,by decide,Co.keep _ (by simp[cJ,cK]),.inr ⟨rfl,rfl⟩⟩
 ·simp only[S];refine cN (cN ?_);refine cU ?_;simp only[xq,reduceIte,qE,qA,qL,qD,gq,aA];refine cL rfl (fun hd=>by cases hd) (fun hd=>dJ ?_);simp only[xq,reduceIte,qE,qA,qL,qD];refine cN ?_;refine wR ?_;simp only[xq,reduceIte,qE,qA,qL,qD];refine cS ?_;let T:Nat→St:=fun j=>⟨dB [(1,.ref q 1 0 1 true),(2,.ptr h.length 1 0 0),(4,.ptr (h.length+1) 1 0 0),(9,.int j)],h++[fX w,jJ]⟩;refine dX (s':=T 0) (Co.keep _ (by simp[cJ,cK])) ?_;refine dN (fun m s=>∃ j:Nat,j≤w.rows.length∧m=w.rows.length-j∧s=T j) ⟨0,zI _,rfl,rfl⟩ ?_;rintro m s ⟨j,hj,rfl,rfl⟩;simp only[T];refine cN (cN ?_);refine cU ?_;simp only[xq,reduceIte,qE,qA,qL,qD,Vw.ds,cW,dA];refine cL rfl (fun hc=>cQ ?_) (fun hc=>dJ ?_)
  ·have cY:j<w.rows.length:=by simpa using hc
   have w1:IntKind.i64.wrap ((j:Int)+1)=((j+1:Nat):Int):=by rw[cX (by omega)];omega
   have hnw:¬ w.width<(dG w.rows[j]:Int):=by
    have:=List.any_eq_false.1 Xo _ (zi cY);simpa using this
   simp only[xq,reduceIte,qE,qA,qL,qD];refine cN (cS ?_);refine cN (eD (by simp) ?_);simp only[xq,reduceIte,qE,qA,qL,qD,Vw.ds,dA,cW,eC cY,zQ,zr,zP]
   repeat refine aB (by first | omega | decide) ?_
   refine dF (Hw w.rows[j]) rfl ?_;simp only[xq,reduceIte,qE,qA,qL,qD,dA];refine cL rfl (fun hd=>absurd (of_decide_eq_true hd) hnw) (fun hd=>cQ ?_);simp only[xq,reduceIte,qE,qA,qL,qD];refine cU ?_;simp only[xq,reduceIte,qE,qA,qL,qD,w1];exact⟨w.rows.length-(j+1),T (j+1),by omega,Co.keep _ (by simp[cJ,cK]),j+1,cY,rfl,rfl⟩
  ·simp only[xq,reduceIte,qE,qA,qL,qD];refine wR ?_;simp only[xq,reduceIte,qE,qA,qL,qD,Vw.ds,dA,eT,rW];refine cT ⟨.inr rfl,?_⟩;simp only[dK,eH,dM,cJ,reduceIte,qE,cK,eT,xq,reduceIte,qE,qA,qL,qD,dI,List.take];exact⟨rfl,rfl⟩
end
section
def tS(n:Nat)(c:Cand):Prop:=c=sA∨(0≤c.top∧iP c.by'<c.bot-c.top∧c.bot≤n∧c.by'≠0)
theorem aHn{a b:List (List Gl)}{n:Nat}{y top bot:Int}{best:Cand}(h:tS n best)(h1:0≤top)(h2:iP y<bot-top)(h3:bot≤n)(h4:y≠0):tS n (Yt a b y top best bot):=by
 unfold Yt;split
 ·exact .inr ⟨h1,h2,h3,h4⟩
 ·exact h
theorem aCT{a b:List (List Gl)}{n:Nat}{y top:Int}(h1:0≤top)(h4:y≠0):∀ (k:Nat) (bot:Int) (best:Cand),tS n best→iP y<bot-top→bot+k≤n+1→tS n (Oz a b y top k bot best)
 | 0,_,_,h,_,_=>h
 | k+1,bot,best,h,h2,h3=>by
  rw[Oz];exact aCT h1 h4 k (bot+1) _ (aHn h h1 h2 (by omega) h4) (by omega) (by omega)
theorem aCU{a b:List (List Gl)}{n:Nat}{y:Int}:∀ (k top:Nat) (best:Cand),tS n best→tS n (Wd a b n y k top best)
 | 0,_,_,h=>h
 | k+1,top,best,h=>by
  rw[Wd];refine aCU k (top+1) _ ?_;split
  ·exact h
  ·rename_i hy;rcases Int.lt_or_le ((n:Int)+1-(top+iP y+1)) 0 with h1 | h1
   ·rw[show((n:Int)+1-(top+iP y+1)).toNat=0 by omega,Oz];exact h
   ·exact aCT (by omega) hy _ _ _ h (by omega) (by omega)
theorem aFr{a b:List (List Gl)}{n:Nat}:∀ (k:Nat) (y:Int) (best:Cand),tS n best→tS n (byC a b n k y best)
 | 0,_,_,h=>h
 | k+1,y,best,h=>by
  rw[byC];exact aFr k (y+1) _ (aCU _ _ _ h)
theorem aHo{a b:List (List Gl)}{n:Nat}:tS n (qM a b n):=aFr _ _ _ (.inl rfl)
theorem aHp{m b:Vw}(hm:dO m=0)(h:(gJ m b).2=true):iM m (gJ m b).1=0:=by
 obtain⟨e,_⟩:=fH.1 hm;have hl:=e.len;unfold gJ at h ⊢;split at h
 ·rename_i hmt;split at h
  ·cases h
  ·rename_i hg;rw[if_pos hmt,if_neg hg];have lG:=aHo (a:=m.rows) (b:=b.rows) (n:=m.rows.length);generalize qM m.rows b.rows m.rows.length=c at *;rcases lG with rfl | ⟨h1,h2,h3,h4⟩
   ·exact absurd (by decide) hg
   ·unfold iP at h2;unfold iM;rw[if_pos (fP.2 (by simp)),if_pos (by simp[blankG]),if_pos]
    ·rfl
    ·simp only[eM,if_neg (show ¬ (2:Int)=1 by decide),if_true,Bool.and_eq_true,decide_eq_true_eq,Bool.not_eq_true',decide_eq_false_iff_not];omega
 ·cases h
end
section
variable {P:Program}{N:Nat}{Γ:dP}
abbrev aMc(Γ:dP)(P:Program)(f:FuncId):Prop:=∀ (v w:Vw) (c:Cg),Sm v 50000→dO v=0→iM v c=0→w=dV v c→tC w=false→CgOk c→∀ (h:cM) (q:Nat),h[q]? = some (fT [c])→FnD Γ.ctx P f [fF v,.ref q 1 0 1 true] h (apA (w,0,0)) (h++[fX w,fX w])
abbrev aAQ(Γ:dP)(P:Program)(f:FuncId):Prop:=∀ m b:Vw,m.rows.length≤1000→b.rows.length≤1000→Sm m 50000→FnP Γ P f [fF m,fF b] (aCl (gJ m b))
abbrev aFs(Γ:dP)(P:Program)(f:FuncId):Prop:=∀ x b:Vw,x.rows.length=b.rows.length→b.rows.length≤1000→Sm x 50000→Sm b 50000→FnP Γ P f [fF x,fF b] (eV (iE x b))
theorem aEw{f fv fp fr ff fk:FuncId}(H:FnIs P f N [.t 4] (Al fv fp fr ff fk))(hN:2≤N)(Hv:sY Γ P fv)(Hp:aMc Γ P fp)(Hr:aFs Γ P fr)(Hf:aAQ Γ P ff)(Hk:Lu Γ P fk):Lx Γ P f:=by
 intro a b sa sb;refine .of_W H (by simpa using hN) ?_;have hva:=Hv a (sa.mono (by omega));have hvb:=Hv b (sb.mono (by omega));simp only[fF,Vw.ds,zU,zV] at hva hvb;unfold Al;simp only[fF,Vw.ds,zU,zV];refine wR ?_;simp only[xq,reduceIte,qE,qA,qL,qD];refine dX (Lv (a:=a) (b:=b) (t:=[]) (h:=[]) [] (by simp[cJ,cK]) (by simp[cJ,cK]) (by simp)) ?_;refine cN (eJ (fun s'=>∃ c:Bool,(c=true↔¬ (dO a=0∧dO b=0))∧s'=⟨dB [(2,.iptr a.ds),(3,.iptr b.ds),(21,.bool c)],[]⟩) (cU ?_) ?_)
 ·cases e1:decide (dO a=0)
  ·simp only[xq,reduceIte,qE,qA,qL,qD,Vw.ds];refine dF (hva) rfl ?_;simp only[xq,reduceIte,qE,qA,qL,qD,e1,cV,zE,aC,aE];exact⟨_,Co.keep _ (by simp[cJ,cK,Vw.ds]),true,by simp[of_decide_eq_false e1],rfl⟩
  ·simp only[xq,reduceIte,qE,qA,qL,qD,Vw.ds];refine dF (hva) rfl ?_;simp only[xq,reduceIte,qE,qA,qL,qD,e1,cV,zE,aC,aE];refine dF (hvb) rfl ?_;simp only[xq,reduceIte,qE,qA,qL,qD,cV,zE];exact⟨_,Co.keep _ (by simp[cJ,cK,Vw.ds]), !decide (dO b=0),by simp[of_decide_eq_true e1],rfl⟩
 rintro _ ⟨c0,hc0,rfl⟩;refine cL rfl (fun hd=>?_) (fun hd=>cQ ?_)
 ·have hd:=hc0.1 hd;refine wR ?_;simp only[xq,reduceIte,qE,qA,qL,qD];refine cT ?_;simp only[xq,reduceIte,qE,qA,qL,qD];rw[gX,if_neg hd];exact .frz (.d (.nil _))
 obtain⟨ha,hb⟩:dO a=0∧dO b=0:=Decidable.byContradiction fun h=>by rw[hc0.2 h] at hd;cases hd
 have hdv:gX a b=mM a b++sB (Lr a b) b:=by rw[gX,if_pos ⟨ha,hb⟩]
 rw[hdv];obtain⟨hm,hmw,hmh⟩:=aAu ha hb;obtain⟨ea,_⟩:=fH.1 ha;obtain⟨eb,_⟩:=fH.1 hb;obtain⟨em,_⟩:=fH.1 hm;have sza:=gF.1 ea.sz;have szb:=gF.1 eb.sz;have lb:=eb.len;have lm:=em.len;have sm:Sm (Lr a b) 140:=aD0 sa;have dZ:mM a b=if a.width=b.width∧a.height=b.height then [] else [gE b]:=rfl;have Vi:Lr a b=if a.width=b.width∧a.height=b.height then a else qK a b.height b.width:=rfl;simp only[xq,reduceIte,qE,qA,qL,qD];refine wR ?_;simp only[xq,reduceIte,qE,qA,qL,qD];refine wR ?_;simp only[xq,reduceIte,qE,qA,qL,qD,Vw.ds];refine eJ (· = ⟨dB [(3,.iptr b.ds),(5,.ref 0 (mM a b).length 0 (mM a b).length true),(6,.iptr (Lr a b).ds)],[fT (mM a b)]⟩) ?_ ?_
 ·refine eJ (· = ⟨dB [(2,.iptr a.ds),(3,.iptr b.ds),(5,.ref 0 0 0 0 true),(6,.ptr 1 1 0 0),(35,.bool (!(decide (a.width=b.width)&&decide (a.height=b.height))))],[fT [],fX a]⟩) (cU ?_) ?_
  ·cases e1:decide (a.width=b.width)
   ·simp only[xq,reduceIte,qE,qA,qL,qD,Vw.ds,e1,cV,zE,aC,aE];exact⟨_,Co.keep _ (by simp[cJ,cK,Vw.ds]),rfl⟩
   ·simp only[xq,reduceIte,qE,qA,qL,qD,Vw.ds,e1,cV,zE,aC,aE];exact⟨_,Co.keep _ (by simp[cJ,cK,Vw.ds]),rfl⟩
  rintro _ rfl;have ends:∀ (sl:Nat→A) (p:List Cg) (w:Vw) (t:cM),sl 3 = .iptr b.ds→sl 5 = .ref 0 p.length 0 p.length true→sl 6 = .ptr 1 1 0 0→p=mM a b→w=Lr a b→∃ s1,Co 0 ⟨sl,fT p::fX w::t⟩ s1∧s1=⟨dB [(3,.iptr b.ds),(5,.ref 0 (mM a b).length 0 (mM a b).length true),(6,.iptr (Lr a b).ds)],[fT (mM a b)]⟩:=by
   intro sl p w t h3 h5 h6 hp hw;refine⟨_,Co.frz (s:=⟨sl,fT p::fX w::t⟩) [(3,.iptr b.ds),(5,.ref 0 (mM a b).length 0 (mM a b).length true),(6,.iptr (Lr a b).ds)] 1 ?_ (zI _) (by simp) ?_,by rw[← hp];rfl⟩
   ·intro x hx;simp only[zp,zc,or_false] at hx;rcases hx with rfl | rfl | rfl
    ·simp only[h3];exact .same rfl
    ·simp only[h5,← hp];exact .same (by simp[A.under])
    ·simp only[h6,← hw];exact kX (Nat.le_refl _) (e:=pA) rfl
   ·intro B hB;simp only[aF,aK,aJ] at hB;subst hB;exact Ba
  refine cL rfl (fun hd=>?_) (fun hd=>cQ ?_)
  ·have hd:¬ (a.width=b.width∧a.height=b.height):=by simp at hd;omega
   rw[if_neg hd] at dZ Vi;refine wR ?_;simp only[xq,reduceIte,qE,qA,qL,qD,Vw.ds]
   repeat refine aB (by first | decide | omega | (simp only[dL];omega) | (simp only[maxLen];omega)) ?_
   refine dX (s':=⟨dB [(2,.iptr a.ds),(3,.iptr b.ds),(5,.ref 0 1 0 1 true),(6,.ptr 1 1 0 0)],[fT [gE b],fX a]⟩) (Co.frzH (s:=⟨_,[.cells Bp [[.int 1,.int b.height,.int b.width,.int 0,.int 0,.nil]],fX a,.cells Bp [[.int 1,.int b.height,.int b.width,.int 0,.int 0,.nil]]]⟩) _ 2 _ ?_ (zI _) (by simp) rfl ?_) ?_
   ·intro x hx;simp only[zp,zc,or_false] at hx;rcases hx with rfl | rfl | rfl | rfl
    ·exact⟨.same rfl,rfl⟩
    ·exact⟨.same rfl,rfl⟩
    ·exact⟨.same rfl,rfl⟩
    ·exact⟨.same rfl,rfl⟩
   ·intro id hid;rcases id with _ | _ | id
    ·refine⟨Bp,_,[(gE b).ds.map .d],rfl,rfl,rfl,fun i r r2 h1 h2=>?_⟩;rcases i with _ | i
     ·simp only[aD,zH] at h1 h2;subst h1 h2;refine⟨rfl,fun j y hj=>?_⟩;rcases j with _ | _ | _ | _ | _ | _ | j
      ·cases hj;exact⟨.same rfl,rfl⟩
      ·cases hj;exact⟨.same rfl,rfl⟩
      ·cases hj;exact⟨.same rfl,rfl⟩
      ·cases hj;exact⟨.same rfl,rfl⟩
      ·cases hj;exact⟨.same rfl,rfl⟩
      ·cases hj;exact⟨.d (.nil _),rfl⟩
      ·simp[gE,Cg.ds] at hj
     ·simp at h1
    ·refine⟨pA,_,[a.ds.map .d],rfl,rfl,rfl,fun i r r2 h1 h2=>?_⟩;rcases i with _ | i
     ·simp only[aD,zH] at h1 h2;subst h1 h2;refine⟨rfl,fun j y hj=>?_⟩;rcases j with _ | _ | _ | _ | _ | _ | j
      ·cases hj;exact⟨.same rfl,rfl⟩
      ·cases hj;exact⟨.same rfl,rfl⟩
      ·cases hj;exact⟨.same rfl,rfl⟩
      ·cases hj;exact⟨.same rfl,rfl⟩
      ·cases hj;exact⟨.same rfl,rfl⟩
      ·cases hj;exact⟨.same rfl,rfl⟩
      ·simp[Vw.ds] at hj
     ·simp at h1
    ·omega
   have hA:=Hp a (qK a b.height b.width) (gE b) (sa.mono (by omega)) ha (yE hb) pC.symm (by rw[← pC];exact rA ha (yE hb) (by simp[gE])) ⟨by simp[gE],by simp[gE]⟩ [fT [gE b],fX a] 0 rfl;rw[← Vi] at hA;obtain⟨m,xH⟩:∃ m,m=Lr a b:=⟨_,rfl⟩;rw[← xH] at hA;simp only[apA,fF,Vw.ds,zU,zV] at hA;refine cU ?_;simp only[xq,reduceIte,qE,qA,qL,qD,Vw.ds];refine qJ hA ?_;simp only[xq,reduceIte,qE,qA,qL,qD,Vw.ds,aM,aN];exact ends _ [gE b] m _ rfl rfl rfl dZ.symm xH
  ·have hd:a.width=b.width∧a.height=b.height:=by simpa using hd
   rw[if_pos hd] at dZ Vi;refine⟨rfl,?_⟩;exact ends _ [] a [] rfl rfl rfl dZ.symm Vi.symm
 rintro _ rfl;clear hva hvb Vi hdv dZ;have hmr:(Lr a b).rows.length=b.rows.length:=by omega
 have aHx:b.rows.length≤60:=by omega
 obtain⟨p0,hp0⟩:∃ p0,p0=mM a b:=⟨_,rfl⟩;have La:p0.length≤1:=by rw[hp0];unfold mM;split<;>simp
 rw[← hp0];generalize Lr a b=m at *;have smb:=sm.mono (show 140≤50000 by omega);have sbb:=sb.mono (show 140≤50000 by omega);have qI:sB m b=if(gJ m b).2=true∧(dU m [(gJ m b).1]).2.2=0∧gC (Fr m b)<gC (iE m b) then Fr m b else iE m b:=rfl;have Kw:Fr m b=(gJ m b).1::iE (dU m [(gJ m b).1]).1 b:=rfl;have Ol:=vA (a:=m) (b:=b);have aC2:=aHp (b:=b) hm;obtain⟨c,ok,hfd⟩:∃ c ok,gJ m b=(c,ok):=⟨_,_,rfl⟩;have hR:=Hr m b hmr (by omega) smb sbb;have hF:=Hf m b (by omega) (by omega) smb;have fw:=Di sm sb aHx;rw[hfd] at qI Kw Ol aC2 hF;simp only at qI Kw Ol aC2;simp only[aCl,fF,pG,Vw.ds,Cg.ds,zU,zV] at hR hF;obtain⟨w,hw⟩:∃ w,w=iE m b:=⟨_,rfl⟩;rw[← hw] at hR qI fw;have hwl:=fw.len;have frzO:∀ (t:cM) (l:List Cg),t[0]? = some (.cells Bp (((eP p0).map fun r=>r.map A.d)++((eP l).map fun r=>r.map A.d)))→FrzA 0 t (.ref 0 (p0.length+l.length) 0 (p0.length+l.length) true) (eV (p0++l)):=fun t l ht=>by
  have:=El (l:=p0++l) (zI 0) (h:=t) (by rw[ht];simp only[fT,rD,aI]);rw[zb] at this;exact this
 have last:∀ (sl:Nat→A) (t:cM) (w2:List Cg),w2.length≤20000001→t[0]? = some (fT p0)→sl 5 = .ref 0 p0.length 0 p0.length true→sl 7=eV w2→w2=sB m b→W Γ.ctx P N none 0 (.seq (.reg [
  { dst:=some 83,op:=.mov (.t 5) },
  { dst:=some 84,op:=.mov (.t 7) },
  { dst:=some 85,op:=.append ⟨6,64⟩ (.t 83) (.t 84) },
  { dst:=some 4,op:=.mov (.t 85) }]) .ret) (Bw [.t 4] (eV (p0++sB m b))) ⟨sl,t⟩:=fun sl t w2 h2 ht h5 h7 hw2=>by
  have vY:=(zA.1 ht).1;rw[← hw2];refine wR ?_;simp only[xq,reduceIte,qE,qA,qL,qD,h5,h7,ht,uX,dD]
  repeat refine aB (by first | omega | (simp only[dL];omega) | (simp only[maxLen];omega)) ?_
  refine cT (.frz ?_);simp only[xq,reduceIte,qE,qA,qL,qD];exact frzO _ _ (List.getElem?_set_self vY)
 refine wR ?_;simp only[xq,reduceIte,qE,qA,qL,qD,Vw.ds];refine dF (hR) rfl ?_;simp only[xq,reduceIte,qE,qA,qL,qD];refine wR ?_;simp only[xq,reduceIte,qE,qA,qL,qD,Vw.ds];refine dF (hF) rfl ?_;simp only[xq,reduceIte,qE,qA,qL,qD,dA];refine cN ?_;refine wR ?_;simp only[xq,reduceIte,qE,qA,qL,qD];cases ok with
 | false =>
  refine cL rfl (fun hd=>by cases hd) (fun hd=>cQ ?_);rw[if_neg (by simp)] at qI;simp only[xq,reduceIte,qE,qA,qL,qD];exact last _ _ w (by omega) rfl (by simp[cJ,cK]) (by simp[cJ,cK]) qI.symm
 | true =>
  refine cL rfl (fun hd=>?_) (fun hd=>by cases hd);obtain⟨hk,_,Im⟩:=Ol rfl;have hc:=aC2 rfl;have lG:CgOk c:=⟨by rw[Im];simp,by rw[Im];simp⟩;obtain⟨n,hn⟩:∃ n,n=dV m c:=⟨_,rfl⟩;have hnw:tC n=false:=by rw[hn];exact rA hm hc (by omega)
  have Qb:dU m [c]=(n,0,0):=by rw[tX hm hc,← hn,hnw];rfl
  rw[Qb] at qI Kw;simp only at qI Kw;have hA:=Hp m n c smb hm hc hn hnw lG [fT p0,iA c,fT [c]] 2 rfl;simp only[apA,fF,Vw.ds,zU,zV] at hA;have sn:Sm n 140:=by rw[hn];exact Ek hk sm
  have hnr:n.rows.length=b.rows.length:=by rw[hn,Oe hk];exact hmr
  have hR2:=Hr n b hnr (by omega) (sn.mono (by omega)) sbb;simp only[fF,Vw.ds,zU,zV] at hR2;have fr:=Di sn sb aHx;obtain⟨r,hr⟩:∃ r,r=iE n b:=⟨_,rfl⟩;rw[← hr] at hR2 fr Kw;have Mu:=fr.len;have fo:Few (c::r):=by
   have e1:=Kc (sn.mono (show 140≤50000 by omega)) sbb;rw[← hr] at e1;refine⟨by rw[za];omega,fun d hd=>?_⟩;rcases zp.1 hd with rfl | hd
   ·have:=lG.len;omega
   ·exact fr.gl d hd
  rw[Kw] at qI;have hKo:=Hk (c::r) fo;have hKw:=Hk w fw;refine dX (s':=⟨dB [(3,.iptr b.ds),(5,.ref 0 p0.length 0 p0.length true),(6,.iptr m.ds),(7,eV w),(8,.ptr 1 1 0 0)],[fT p0,iA c]⟩) (Co.keep _ (by simp[cJ,cK,Vw.ds])) ?_;refine wR ?_;simp only[xq,reduceIte,qE,qA,qL,qD,Vw.ds,Cg.ds];refine qJ hA ?_;simp only[xq,reduceIte,qE,qA,qL,qD,aM,aN];refine dX (s':=⟨dB [(3,.iptr b.ds),(5,.ref 0 p0.length 0 p0.length true),(7,eV w),(8,.iptr c.ds),(10,.iptr n.ds)],[fT p0]⟩) (Co.frz (s:=⟨_,[fT p0,iA c,fT [c],fX n,fX n,fX n]⟩) _ 1 ?_ (zI _) (by simp) ?_) ?_
  ·intro x hx;simp only[zp,zc,or_false] at hx;rcases hx with rfl | rfl | rfl | rfl | rfl
   ·exact .same rfl
   ·exact .same rfl
   ·exact .same rfl
   ·simp only[cJ,cK];exact kX (by decide) (e:=Bp) rfl
   ·simp only[cJ,cK];exact kX (by decide) (e:=pA) rfl
  ·intro B hB;simp only[aF,aK,aJ] at hB;subst hB;exact Ba
  refine cN (eD (by simp) ?_);simp only[xq,reduceIte,qE,qA,qL,qD,Vw.ds,Cg.ds,dD];refine dF (hR2) rfl ?_;simp only[xq,reduceIte,qE,qA,qL,qD,Vw.ds,Cg.ds,dD];rw[show 1+r.length=(c::r).length by rw[za];omega];refine⟨by rw[za];simp only[dL];omega,by rw[za];simp only[maxLen];omega,?_⟩;refine dX (s':=⟨dB [(5,.ref 0 p0.length 0 p0.length true),(7,eV w),(13,eV (c::r))],[fT p0]⟩) (Co.frz (s:=⟨_,[fT p0,fT (c::r),.res]⟩) _ 1 ?_ (zI _) (by simp) ?_) ?_
  ·intro x hx;simp only[zp,zc,or_false] at hx;rcases hx with rfl | rfl | rfl
   ·exact .same rfl
   ·exact .same rfl
   ·exact El (l:=c::r) (by decide) rfl
  ·intro B hB;simp only[aF,aK,aJ] at hB;subst hB;exact Ba
  refine wR ?_;simp only[xq,reduceIte,qE,qA,qL,qD];refine dF (hKo) rfl ?_;simp only[xq,reduceIte,qE,qA,qL,qD];refine dF (hKw) rfl ?_;simp only[xq,reduceIte,qE,qA,qL,qD];refine cL rfl (fun tU=>?_) (fun tU=>cQ ?_)
  ·have tU:=of_decide_eq_true tU;rw[if_pos (by simp[tU])] at qI;rw[qI];refine wR ?_;simp only[xq,reduceIte,qE,qA,qL,qD,uX,dD]
   repeat refine aB (by first | omega | (simp only[dL];omega) | (simp only[maxLen];omega)) ?_
   refine cT (.frz ?_);simp only[xq,reduceIte,qE,qA,qL,qD];exact frzO _ (c::r) rfl
  ·have tU:=of_decide_eq_false tU;rw[if_neg (by rintro⟨_,_,h3⟩;exact tU h3)] at qI;simp only[xq,reduceIte,qE,qA,qL,qD];exact last _ _ w (by omega) rfl (by simp[cJ,cK]) (by simp[cJ,cK]) qI.symm
end
section
variable {P:Program}{N:Nat}{Γ:dP}
theorem aAR{f ft:FuncId}(H:FnIs P f N [.c 6 6 true] (nK ft))(hN:3≤N)(row:Int)(a b:List Gl)(hta:FnP Γ P ft [.d (.sl dW (cP a))] (.d (.sl dW (cP (dE a)))))(htb:FnP Γ P ft [.d (.sl dW (cP b))] (.d (.sl dW (cP (dE b))))) :
  FnP Γ P f [.int row,.d (.sl dW (cP a)),.d (.sl dW (cP b))] (pG (lL row a b)):=by
 refine .of_W H (by simpa using hN) ?_;unfold nK;refine wR ?_;simp only[xq,reduceIte,qE,qA,qL,qD];refine wR ?_;simp only[xq,reduceIte,qE,qA,qL,qD];refine dF (hta) rfl ?_;simp only[xq,reduceIte,qE,qA,qL,qD,cR];refine dF (htb) rfl ?_;simp only[xq,reduceIte,qE,qA,qL,qD];refine cT ⟨.inr rfl,?_⟩;simp only[dK,eH,dM,xq,reduceIte,qE,qA,qL,qD,dI];exact .same rfl
theorem aEx{f:FuncId}(H:FnIs P f N [.t 2] rP)(hN:1≤N)(g:Gl):FnP Γ P f [Np g] (.bool (decide (g=eL))):=by
 refine .of_W H (by simpa using hN) ?_;have hs:(decide (g=eL))=((decide (g.text=⟨#[32]⟩) && !g.wide)&&decide (g.style=0)):=by
  obtain⟨a,b,c⟩:=g;simp only[eL,Gl.mk.injEq,Bool.decide_and];cases b<;>simp[Bool.and_assoc]
 unfold rP;refine wR ?_;simp only[xq,reduceIte,qE,qA,qL,qD,Np,Gl.row];rw[hs];refine Zz fun K hK=>?_;have fin:∀ (sl:Nat→A) (h:cM),sl 2 = .bool ((decide (g.text=⟨#[32]⟩) && !g.wide)&&decide (g.style=0))→K ⟨sl,h⟩:=fun sl h h2=>hK _ (cT (.tmp h2 rfl));clear hK;cases e1:decide (g.text=⟨#[32]⟩)
 ·rw[e1] at fin;simp only[xq,reduceIte,qE,qA,qL,qD,e1,cV,zE];exact fin _ _ rfl
 ·cases e2:g.wide
  ·rw[e1,e2] at fin;simp only[xq,reduceIte,qE,qA,qL,qD,e1,e2,cV,zE];exact fin _ _ rfl
  ·rw[e1,e2] at fin;simp only[xq,reduceIte,qE,qA,qL,qD,e1,e2,cV,zE];exact fin _ _ rfl
theorem aJx{f ft fb fe fn fs fw fl fr fk:FuncId}{N1 N2 N3 N4 N5 N6 N7 N8 N9:Nat}(H:FnIs P f N [.t 6] (nI ft fe fn fs fr fk))(hN:3≤N)(Ht:FnIs P ft N1 [.t 2] (Jh fb))(h1:1≤N1)(Hb:FnIs P fb N2 [.t 2] rP)(h2:1≤N2)
  (He:FnIs P fe N3 [.t 4] uN) (h3:2≤N3) (Hn:FnIs P fn N4 [.t 4,.t 5] nJ) (h4:2≤N4) (Hs:FnIs P fs N5 [.t 4] (pS fw)) (h5:2≤N5) (Hw:FnIs P fw N6 [.t 4] (tQ fl)) (h6:2≤N6) (Hl:FnIs P fl N7 [.t 4] rR) (h7:2≤N7)
  (Hr:FnIs P fr N8 [.c 6 6 true] (nK ft)) (h8:3≤N8) (Hk:FnIs P fk N9 [.t 2] mD) (h9:1≤N9):aIV Γ P f:=by
 intro row a b ha hb;have ht:∀ l:List Gl,l.length≤1000000→FnP Γ P ft [.d (.sl dW (cP l))] (.d (.sl dW (cP (dE l)))):=Oi Ht h1 (aEx Hb h2);have hta:=iG a;have htb:=iG b;refine aAP H hN row a b ha hb (fun l hl=>ht l (by omega)) (Aw He h3) (aAM Hn h4 _ _ (by omega) (by omega)) (fun g hg=>?_) (aAR Hr h8 row a b (ht a (by omega)) (ht b (by omega))) (fun l q1 q2=>aCR Hk h9 l q1 q2);exact aCN Hs h5 _ _ (by omega) (by omega) (aHj Hw h6 _ _ hg (by omega) (by omega) (aEs Hl h7 _ _ hg (by omega) (by omega)))
theorem aJy{f fm fg fr fp fe fs:FuncId}{N1 N2 N3 N4 N5:Nat}(H:FnIs P f N [.c 4 6 true,.t 5] (tL fm fg))(hN:2≤N)(Hm:FnIs P fm N1 [.t 4] Fl)(h1:2≤N1)(Hg:FnIs P fg N2 [.t 10] (tM fm fr fe))(h2:5≤N2)(Hr:FnIs P fr N3 [.t 8,.t 9] (tO fp))(h3:4≤N3)
  (Hp:FnIs P fp N4 [.t 8] xU) (h4:4≤N4) (He:FnIs P fe N5 [.t 8] (rO fs)) (h5:4≤N5) (Hs:vT Γ P fs):aAQ Γ P f:=by
 intro m b hml Qd sm;have hm:FnP Γ P fm [fF m,fF b] (.bool (lM m b)):=aCk Hm h1 m b;refine aHi H hN m b hml hm fun hmt t u y htu hu hy=>?_;refine aHh Hg h2 m b t u y hmt hml htu hu hm (aHg Hr h3 m.rows t u y hml (fun r hr=>by have:=sm.row r hr;omega) hy ?_) (fun x z hx hz=>aEp He h5 x z t u (by omega) htu hx hz Hs);exact Oc Hp h4 _ _ _ _ (by omega)
end
end Go.Proofs.YtlllnjhgjijnkaaGreatDoor.Nx
