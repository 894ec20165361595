import Derived.Test.YtlllnjhgjijnkaaGreatDoorNxE15
import Derived.Test.YtlllnjhgjijnkaaGreatDoorNxI21
import Derived.Test.YtlllnjhgjijnkaaGreatDoorNxI14
set_option linter.all false
open List renaming getElem?_eq_some_iff → zA, getElem?_eq_getElem → zB, getD_eq_getElem?_getD → zC, getElem?_append_left → zF, getElem?_append_right → zG, getElem?_map → zK, getElem?_set_ne → zM, getElem?_set_self → zN, append_nil → zP, append_assoc → zS, length_append → zb, length_map → zg, getElem_mem → zi, getElem?_range → zj, replicate_zero → zr, set_append_left → zu
open Bool renaming true_eq_false → zE
open Nat renaming zero_le → zI, le_refl → zL
open Int renaming toNat_natCast → zQ
open Nat renaming reduceEqDiff → qE, reduceAdd → qA, reduceLT → qL, reduceLeDiff → qD
set_option maxHeartbeats 2000000
open And renaming intro → aA
open List renaming drop → aB, take → aC, length_singleton → aD, map → aE, getElem?_cons_succ → aG, length_range → aH, take_of_length_le → aJ, findIdx_lt_length_of_exists → aK, range → aL, map_append → aO, findIdx_getElem → aP, take_add_one → aQ, length_take → aR, drop_length → aS, take_length → aT
open Bool renaming false_eq_true → aF
open Nat renaming zero_add → aI, add_comm → aM, lt_or_ge → aN
namespace Go.Proofs.YtlllnjhgjijnkaaGreatDoor.Nx
open Go
section
variable {P:Program}{N:Nat}{Γ:dP}
def eF(f:Gl→Int)(l:List Gl):List (List D):=l.map fun g=>[.sc (.int .i64 (f g))]
theorem dQ{f:Gl→Int}{l:List Gl}:(eF f l).length=l.length:=by simp[eF]
theorem rI{f:Gl→Int}{l:List Gl}{i:Nat}(h:i<l.length):(eF f l).getD i []=[.sc (.int .i64 (f l[i]))]:=by
 rw[eF,zC,zK,zB h];rfl
def Sep(f:Gl→Int)(a b:List Gl):Prop:=∀ x∈a,∀ y∈b,(f x=f y↔x=y)
theorem aEs{f:FuncId}(H:FnIs P f N [.t 4] rR)(hN:2≤N){g:Gl→Int}(a b:List Gl)(hg:Sep g a b)(ha:a.length≤50000)(hb:b.length≤50000):FnP Γ P f [.d (.sl fL (eF g a)),.d (.sl fL (eF g b))] (.d (.sl eW (nU a b))):=by
 refine .of_W H (by simpa using hN) ?_;obtain⟨na,hna⟩:∃ k,k=a.length+1:=⟨_,rfl⟩;obtain⟨nb,Xj⟩:∃ k,k=b.length+1:=⟨_,rfl⟩;have wa:IntKind.i64.wrap ((a.length:Int)+1)=(na:Int):=by rw[cX (by omega)];omega
 have wb:IntKind.i64.wrap ((b.length:Int)+1)=(nb:Int):=by rw[cX (by omega)];omega
 have wa1:IntKind.i64.wrap ((a.length:Int)-1)=(a.length:Int)-1:=cX (by omega);have wb1:IntKind.i64.wrap ((b.length:Int)-1)=(b.length:Int)-1:=cX (by omega);have r24:(na:Int) * ((24:Nat):Int)≤((dL:Nat):Int):=by simp only[dL];omega
 have r8:(nb:Int) * ((8:Nat):Int)≤((dL:Nat):Int):=by simp only[dL];omega
 unfold rR;refine wR ?_;simp only[xq,reduceIte,qE,qA,qL,qD];refine wR ?_;simp only[xq,reduceIte,qE,qA,qL,qD,dQ,wa,zQ];refine⟨by omega,by omega,by omega,r24,?_⟩;have hO:(List.replicate na [A.nil])=jK a b (a.length+1):=by rw[hna,aB8]
 have hH:([]:cM)=nS a b (a.length+1):=by rw[nS,Nat.sub_self];rfl
 repeat refine aA (by omega) ?_
 refine cN ?_;refine wR ?_;simp only[xq,reduceIte,qE,qA,qL,qD,dQ];refine cS ?_;let da:A:=.d (.sl fL (eF g a));let db:A:=.d (.sl fL (eF g b));let S:Nat→St:=fun i=>⟨dB [(0,da),(1,db),(5,.ref 0 na 0 na true),(6,.int ((i:Int)-1))],.cells eW (jK a b i)::nS a b i⟩;have es:(((a.length+1:Nat):Int)-1)=(a.length:Int):=by omega
 refine dX (s':=S (a.length+1)) ?_ ?_
 ·simp only[S,da,db,← hO,← hH,es];exact Co.keep _ (by simp[cJ,cK])
 refine dN (fun m s=>∃ i,i≤a.length+1∧m=i∧s=S i) ⟨a.length+1,zL _,rfl,rfl⟩ ?_;rintro m s ⟨i,hi,rfl,rfl⟩;simp only[S,da,db];refine cN ?_;refine wR ?_;simp only[xq,reduceIte,qE,qA,qL,qD];refine cL rfl (fun hc=>cQ ?_) (fun hc=>dJ ?_)
 ·obtain⟨p,rfl⟩:∃ p,m=p+1:=⟨m-1,by simp at hc;omega⟩;have e0:(((p+1:Nat):Int)-1)=(p:Int):=by omega
  have e1:(nS a b (p+1)).length+1=1+(a.length-p):=by rw[lB];omega
  have hp:p≤a.length:=by omega
  simp only[xq,reduceIte,qE,qA,qL,qD,e0];obtain⟨q,hq⟩:∃ q,q=1+(a.length-p):=⟨_,rfl⟩;obtain⟨Hq,hHq⟩:∃ Hq:Nat→cM,∀ j,Hq j = .cells eW (jK a b p)::(nS a b (p+1)++[rB a b p j]):=⟨_,fun _=>rfl⟩;have g0:∀ j,(Hq j)[0]? = some (.cells eW (jK a b p)):=fun j=>by rw[hHq];rfl
  have gq:∀ j,(Hq j)[q]? = some (rB a b p j):=fun j=>by
   rw[hHq,hq,aM 1,aG,zG (by rw[lB];omega),lB,show a.length-p-(a.length+1-(p+1))=0 by omega];rfl
  have sq:∀ j X,(Hq j).set q X = .cells eW (jK a b p)::(nS a b (p+1)++[X]):=fun j X=>by
   rw[hHq,hq,aM 1,List.set_cons_succ,List.set_append_right _ _ (by rw[lB];omega),lB,show a.length-p-(a.length+1-(p+1))=0 by omega];rfl
  have op1:(jK a b p)[p]? = some [.ref q nb 0 nb true]:=by rw[Ei (zL _) (by omega),hq,Xj]
  have og:(jK a b (p+1))[p]? = some [.nil]:=by rw[uU (by omega),aB7,if_pos (Nat.lt_succ_self p)]
  have os:(jK a b (p+1)).set p [.ref q nb 0 nb true]=jK a b p:=by rw[hq,Xj,Sk (by omega)]
  refine cN (cS ?_);refine wR ?_;simp only[xq,reduceIte,qE,qA,qL,qD,dQ,wb,zQ,e1,← hq,jL,og];refine⟨by omega,by omega,by omega,r8,?_⟩
  repeat refine aA (by omega) ?_
  refine wR ?_;simp only[xq,reduceIte,qE,qA,qL,qD,dQ,wb1];let S2:Nat→St:=fun j=>⟨dB [(0,da),(1,db),(5,.ref 0 na 0 na true),(6,.int p),(7,.int ((j:Int)-1))],Hq j⟩;have aEJ:HB.cells eW ((jK a b (p+1)).set p [A.ref q nb 0 nb true])::(nS a b (p+1)++[HB.cells { sz:=1,bytes:=8 } (List.replicate nb [A.int 0])])=Hq b.length:=by
   rw[hHq,os,Yl,Xj]
  refine cS ?_;refine dX (s':=S2 b.length) ?_ ?_
  ·simp only[S2,da,db,← aEJ];exact Co.keep _ (by simp[cJ,cK])
  refine dN (fun m s=>∃ j,j≤b.length∧m=j∧s=S2 j) ⟨b.length,zL _,rfl,rfl⟩ ?_;rintro j s ⟨_,hj,rfl,rfl⟩;simp only[S2,da,db];let S3:Bool→St:=fun c=>⟨dB [(0,da),(1,db),(5,.ref 0 na 0 na true),(6,.int p),(7,.int ((j:Int)-1)),(35,.bool c)],Hq j⟩;have hdi:decide ((p:Int)<(a.length:Int))=decide (p<a.length):=by rw[decide_eq_decide];omega
  have hdj:decide ((0:Int)≤(j:Int)-1)=decide (0<j):=by rw[decide_eq_decide];omega
  refine cN (lT (· = S3 (decide (0<j)&&decide (p<a.length))) rfl (fun K hK=>?_) ?_)
  ·cases e:decide (0<j)
   ·simp only[xq,reduceIte,qE,qA,qL,qD,dQ,hdi,hdj,e,cV,zE,ge_iff_le];refine hK _ _ (Co.keep _ ?_) rfl;simp[cJ,cK,da,db,of_decide_eq_false e]
   ·simp only[xq,reduceIte,qE,qA,qL,qD,dQ,hdi,hdj,e,cV,zE,ge_iff_le];refine hK _ _ (Co.keep _ ?_) rfl;simp[cJ,cK,da,db,of_decide_eq_true e]
  rintro _ rfl;simp only[S3,da,db];refine cL rfl (fun hc=>cQ ?_) (fun hc=>dJ ?_)
  ·have hc:0<j∧p<a.length:=by simpa using hc
   obtain⟨u,rfl⟩:∃ u,j=u+1:=⟨j-1,by omega⟩;have hp:p<a.length:=hc.2;have gp:∀ j,(Hq j)[1+(a.length-(p+1))]? = some (rB a b (p+1) 0):=fun j=>by
    rw[hHq,aM 1 (a.length-(p+1)),aG,zF (by rw[lB];omega),Ju (zL _) hp]
   have op2:(jK a b p)[p+1]? = some [.ref (1+(a.length-(p+1))) nb 0 nb true]:=by rw[Ei (by omega) (by omega),Xj]
   have e2:(((u+1:Nat):Int)-1)=(u:Int):=by omega
   have hu:u<b.length:=by omega
   have wp:IntKind.i64.wrap ((p:Int)+1)=((p+1:Nat):Int):=by rw[cX (by omega)];omega
   have wu:IntKind.i64.wrap ((u:Int)+1)=((u+1:Nat):Int):=by rw[cX (by omega)];omega
   have wu1:IntKind.i64.wrap ((u:Int)-1)=(u:Int)-1:=cX (by omega);have l1:=pB (a:=a) (b:=b) (i:=p+1) (j:=0) (q:=u+1) (zI _) (by omega);have l2:=pB (a:=a) (b:=b) (i:=p+1) (j:=0) (q:=u) (zI _) (by omega);have l3:=pB (a:=a) (b:=b) (i:=p) (j:=u+1) (q:=u+1) (zL _) (by omega);have l4:((aL (b.length+1)).map (jQ a b p (u+1)))[u]? = some [.int ((0:Nat):Int)]:=by
    rw[rC (by omega),jQ,if_neg (by omega)]
   have Xm:=Sl (a:=a) (b:=b) (i:=p) hu;have mO:=Sj (a:=a) (b:=b) hp hu;have gZ:=aB6 (a:=a) (b:=b) (i:=p+1) (j:=u+1);have key:∀ X:HB,X=rB a b p u→(Hq (u+1)).set q X=Hq u:=fun X hX=>by rw[sq,hHq,hX]
   have aHB:∀ (sl:Nat→A) (X:HB),X=rB a b p u→sl 0=da→sl 1=db→sl 5 = .ref 0 na 0 na true→sl 6 = .int p→sl 7 = .int ((u:Int)-1)→Co 0 ⟨sl,(Hq (u+1)).set q X⟩ (S2 u):=fun sl X hX k0 k1 k5 k6 k7=>by
    rw[key X hX];exact Co.keep _ (by simp[k0,k1,k5,k6,k7])
   simp only[xq,reduceIte,qE,qA,qL,qD,e2];refine cN (cS ?_);refine cN (eD (by simp) ?_);simp only[xq,reduceIte,qE,qA,qL,qD,rI hp,rI hu,dQ,zQ]
   repeat refine aA (by omega) ?_
   refine cL rfl (fun hd=>?_) (fun hd=>?_)
   ·have hd:a[p]=b[u]:=(hg _ (zi hp) _ (zi hu)).1 (by simpa using hd);rw[if_pos hd] at mO;have wv:IntKind.i64.wrap (((fU a b (p+1) (u+1):Nat):Int)+1)=((fU a b p u:Nat):Int):=by rw[cX (by omega)];omega
    refine eD (by simp) ?_;simp only[xq,reduceIte,qE,qA,qL,qD,g0,gq,gp,rB,jL,op1,op2,l1,l2,l3,l4,wp,wu,wv,zQ,zg,aH]
    repeat refine aA (by omega) ?_
    refine cU ?_;simp only[xq,reduceIte,qE,qA,qL,qD,wu1];exact⟨u,S2 u,by omega,aHB _ _ (by rw[Xm];rfl) rfl rfl rfl rfl rfl,u,by omega,rfl,rfl⟩
   ·have hd:¬ a[p]=b[u]:=fun hh=>(by simpa using hd:¬ g a[p]=g b[u]) (by rw[hh]);rw[if_neg hd] at mO;refine cN (eD (by simp) ?_);simp only[xq,reduceIte,qE,qA,qL,qD,g0,gq,gp,rB,jL,op1,op2,l1,l2,l3,l4,wp,wu,zQ,zg,aH]
    repeat refine aA (by omega) ?_
    refine cL rfl (fun tU=>?_) (fun tU=>?_)
    ·have tU:=of_decide_eq_true tU;have wv:((fU a b (p+1) u:Nat):Int)=((fU a b p u:Nat):Int):=by omega
     refine eD (by simp) ?_;simp only[xq,reduceIte,qE,qA,qL,qD,g0,gq,gp,rB,jL,op1,op2,l1,l2,l3,l4,wp,wu,wv,zQ,zg,aH]
     repeat refine aA (by omega) ?_
     refine cU ?_;simp only[xq,reduceIte,qE,qA,qL,qD,wu1];exact⟨u,S2 u,by omega,aHB _ _ (by rw[Xm];rfl) rfl rfl rfl rfl rfl,u,by omega,rfl,rfl⟩
    ·have tU:=of_decide_eq_false tU;have wv:((fU a b p (u+1):Nat):Int)=((fU a b p u:Nat):Int):=by omega
     refine eD (by simp) ?_;simp only[xq,reduceIte,qE,qA,qL,qD,g0,gq,gp,rB,jL,op1,op2,l1,l2,l3,l4,wp,wu,wv,zQ,zg,aH]
     repeat refine aA (by omega) ?_
     refine cU ?_;simp only[xq,reduceIte,qE,qA,qL,qD,wu1];exact⟨u,S2 u,by omega,aHB _ _ (by rw[Xm];rfl) rfl rfl rfl rfl rfl,u,by omega,rfl,rfl⟩
  ·have hc:0<j→a.length≤p:=by simpa using hc
   have wp1:IntKind.i64.wrap ((p:Int)-1)=(p:Int)-1:=cX (by omega);simp only[xq,reduceIte,qE,qA,qL,qD];refine cU ?_;simp only[xq,reduceIte,qE,qA,qL,qD,wp1];refine⟨p,S p,by omega,?_,p,by omega,rfl,rfl⟩;have:Hq j=HB.cells eW (jK a b p)::nS a b p:=by
    have hB:rB a b p j=rB a b p 0:=by
     rcases Nat.eq_zero_or_pos j with h0 | h0
     ·rw[h0]
     ·have hpa:p=a.length:=by have:=hc h0;omega
      rw[hpa,aDP,aDP]
    rw[hHq,hB,Ym (by omega)]
   simp only[S,da,db,← this];exact Co.keep _ (by simp[cJ,cK])
 ·have hm:m=0:=by simp at hc;omega
  subst hm;simp only[xq,reduceIte,qE,qA,qL,qD];refine wR ?_;simp only[xq,reduceIte,qE,qA,qL,qD];refine cT (.frz ?_);simp only[xq,reduceIte,qE,qA,qL,qD];have hNa:na=(jK a b 0).length:=by rw[jL,hna]
  have fK:∀ i r,(nU a b)[i]? = some r→i<a.length+1∧r=[.sl fL ((aL (b.length+1)).map fun j=>[.sc (.int .i64 (fU a b i j:Nat))])]:=by
   intro i r hi;have cY:i<a.length+1:=by have:=(zA.1 hi).1;simpa[nU] using this
   rw[nU,zK,zj cY] at hi;exact⟨cY,by simpa using hi.symm⟩
  have hO:∀ i,i<a.length+1→(jK a b 0).getD (0+i) []=[.ref (1+(a.length-i)) (b.length+1) 0 (b.length+1) true]:=fun i hi=>by
   rw[aI,zC,Ei (zI _) hi];rfl
  have e0:FrzD 0 (HB.cells eW (jK a b 0)::nS a b 0) (.ref 0 (jK a b 0).length 0 na true) (.sl eW (nU a b)):=by
   refine .ref (zL _) rfl (by simp[nU,hna]) (fun i r hi=>?_) (fun i r j d hi hj=>?_)
   ·obtain⟨cY,rfl⟩:=fK i r hi;rw[hO i cY];rfl
   ·obtain⟨cY,rfl⟩:=fK i r hi;rw[hO i cY]
    match j,hj with
    | j+1,hj=>simp at hj
    | 0,hj =>
     simp only[List.getElem?_cons_zero,Option.some.injEq] at hj;subst hj;have hB:(HB.cells eW (jK a b 0)::nS a b 0)[1+(a.length-i)]? = some (rB a b i 0):=by
      rw[aM 1,aG,Ju (zI _) (by omega)]
     have hl:((aL (b.length+1)).map (jQ a b i 0)).length=b.length+1:=by simp
     have h2:∀ j r,((aL (b.length+1)).map fun j=>[D.sc (.int .i64 (fU a b i j:Nat))])[j]? = some r→((aL (b.length+1)).map (jQ a b i 0)).getD (0+j) []=r.map .d:=fun j r hr=>by
      have cY:j<b.length+1:=by have:=(zA.1 hr).1;simpa using this
      rw[zK,zj cY] at hr;rw[aI,zC,pB (zI _) cY];simp at hr;subst hr;rfl
     have e:FrzD 0 (HB.cells eW (jK a b 0)::nS a b 0) (.ref (1+(a.length-i)) ((aL (b.length+1)).map (jQ a b i 0)).length 0 (b.length+1) true) (.sl fL ((aL (b.length+1)).map fun j=>[D.sc (.int .i64 (fU a b i j:Nat))])):=by
      refine .ref (zI _) hB (by simp) (fun j r hr=>by rw[h2 j r hr];simp) (fun j r k d hr hk=>?_);rw[h2 j r hr,zC,zK,hk];exact .d d
     rw[hl] at e;exact e
  rw[← hNa] at e0;exact .d e0
end
section
variable {P:Program}{N:Nat}{Γ:dP}
structure WS16(g:Gl→Int)(a b:List Gl)(x:A)(i j n:Nat)(sl:Nat→A):Prop where
 q0:sl 0 = .d (.sl fL (eF g a))
 q1:sl 1 = .d (.sl fL (eF g b))
 q2:sl 5 = .d (.sl eW (nU a b))
 q4:sl 6=x
 q5:sl 7 = .int i
 q6:sl 8 = .int j
 q7:sl 9 = .int n
def Pa(a b:List Gl):List Nat:=(nL a b 0).map Prod.fst
theorem Tz{a b:List Gl}:(Pa a b).length=(nL a b 0).length:=by simp[Pa]
theorem aHj{f ft:FuncId}(H:FnIs P f N [.t 4] (tQ ft))(hN:2≤N){g:Gl→Int}(a b:List Gl)(hg:Sep g a b)(ha:a.length≤50000)(hb:b.length≤50000)(Ht:FnP Γ P ft [.d (.sl fL (eF g a)),.d (.sl fL (eF g b))] (.d (.sl eW (nU a b)))) :
  FnP Γ P f [.d (.sl fL (eF g a)),.d (.sl fL (eF g b))] (aLc (Pa a b)):=by
 refine .of_W H (by simpa using hN) ?_;unfold tQ;refine wR ?_;simp only[xq,reduceIte,qE,qA,qL,qD];refine wR ?_;simp only[xq,reduceIte,qE,qA,qL,qD];refine dF (Ht) rfl ?_;simp only[xq,reduceIte,qE,qA,qL,qD];refine wR ?_;simp only[xq,reduceIte,qE,qA,qL,qD];refine wR ?_;simp only[xq,reduceIte,qE,qA,qL,qD];refine cN (cS ?_);let S:A→cM→Nat→Nat→St:=fun x t i j=>⟨dB [(0,.d (.sl fL (eF g a))),(1,.d (.sl fL (eF g b))),(5,.d (.sl eW (nU a b))),(6,x),(7,.int i),(8,.int j)],t⟩;refine dX (s':=S (.ref 0 0 0 0 true) [aDW []] 0 0) (Co.keep _ (by simp[cJ,cK])) ?_;refine dN (fun m s=>∃ i j k x t,i≤a.length∧j≤b.length∧m=(a.length-i)+(b.length-j)∧s=S x t i j∧k≤(nL a b 0).length∧(nL a b 0).drop k=nL (a.drop i) (b.drop j) i∧aNN t ((Pa a b).take k) x) ⟨0,0,0,_,_,zI _,zI _,rfl,rfl,zI _,rfl,⟨0,rfl,rfl⟩⟩ ?_;rintro m s ⟨i,j,k,x,t,hi,hj,rfl,rfl,hk,hx,ho⟩;let S1:Bool→St:=fun c=>⟨dB [(0,.d (.sl fL (eF g a))),(1,.d (.sl fL (eF g b))),(5,.d (.sl eW (nU a b))),(6,x),(7,.int i),(8,.int j),(23,.bool c)],t⟩;have hdi:decide ((i:Int)<(a.length:Int))=decide (i<a.length):=by rw[decide_eq_decide];omega
 have hdj:decide ((j:Int)<(b.length:Int))=decide (j<b.length):=by rw[decide_eq_decide];omega
 refine cN (lT (· = S1 (decide (i<a.length)||decide (j<b.length))) rfl (fun K hK=>?_) ?_)
 ·cases e:decide (i<a.length)
  ·simp only[xq,reduceIte,qE,qA,qL,qD,S,dQ,hdi,hdj,e,cV,zE];refine hK _ _ (Co.keep _ ?_) rfl;simp only[e,Bool.false_or,Bool.true_or];simp[cJ,cK]
  ·simp only[xq,reduceIte,qE,qA,qL,qD,S,dQ,hdi,hdj,e,cV,zE];refine hK _ _ (Co.keep _ ?_) rfl;simp only[e,Bool.false_or,Bool.true_or];simp[cJ,cK]
 rintro _ rfl;refine cL rfl (fun hc=>cQ ?_) (fun hc=>dJ ?_)
 ·have hor:i<a.length∨j<b.length:=by simpa using hc
  obtain⟨n,hn⟩:∃ n,n=pW a b i j:=⟨_,rfl⟩;have mO:=So hi hj hor;have hn2:n≤2:=by rw[hn];exact Lm
  rw[← hn] at mO;let T1:St:=⟨dB [(0,.d (.sl fL (eF g a))),(1,.d (.sl fL (eF g b))),(5,.d (.sl eW (nU a b))),(6,x),(7,.int i),(8,.int j),(9,.int n)],t⟩;simp only[xq,reduceIte,qE,qA,qL,qD,S1];refine cS ?_;refine wR ?_;simp only[xq,reduceIte,qE,qA,qL,qD];refine eJ (· = T1) ?_ ?_
  ·have ok:∀ (sl:Nat→A),WS16 g a b x i j n sl→∃ s1,Co 0 ⟨sl,t⟩ s1∧s1=T1:=fun sl hs=>⟨T1,Co.keep _ (by simp[hs.q0,hs.q1,hs.q2,hs.q4,hs.q5,hs.q6,hs.q7]),rfl⟩;have wi:IntKind.i64.wrap ((i:Int)+1)=((i+1:Nat):Int):=by rw[cX (by omega)];omega
   have wj:IntKind.i64.wrap ((j:Int)+1)=((j+1:Nat):Int):=by rw[cX (by omega)];omega
   have dj:decide ((j:Int)=(b.length:Int))=decide (j=b.length):=by rw[decide_eq_decide];omega
   by_cases h1:i<a.length
   ·have d1:decide (i<a.length)=true:=decide_eq_true h1;refine uE (by simp) fun K hK=>?_;simp only[zr,zP];refine eO (H:=t) 5 (fun sl=>WS16 g a b x i j 2 sl∧sl 28 = .bool true) (fun K' hK'=>?_) ?_
    ·simp only[xq,reduceIte,qE,qA,qL,qD,dQ,hdi,d1];exact hK' _ ⟨⟨rfl,rfl,rfl,rfl,rfl,rfl,rfl⟩,rfl⟩
    rintro sl ⟨q,h28⟩
    by_cases h2:j<b.length
    ·have d2:decide (j<b.length)=true:=decide_eq_true h2;have d3:decide (j=b.length)=false:=decide_eq_false (by omega);rw[Sn h1 h2] at hn;refine eO (H:=t) 6 (fun sl=>WS16 g a b x i j 2 sl∧sl 34 = .bool true) (fun K' hK'=>eZ [(28,some true)] rfl (by simp[nR,h28]) ?_) ?_
     ·simp only[xq,reduceIte,qE,qA,qL,qD,gO,pE,aB,aC,aE,dQ,hdj,d2,h28,q.q0,q.q1,q.q2,q.q4,q.q5,q.q6,q.q7];exact hK' _ ⟨⟨q.q0,q.q1,q.q2,q.q4,q.q5,q.q6,q.q7⟩,rfl⟩
     rintro sl ⟨q,h34⟩;refine eZ [(34,some true)] rfl (by simp[nR,h34]) ?_;simp only[xq,reduceIte,qE,qA,qL,qD,gO,pE,aB,aC,aE,h34,q.q0,q.q1,q.q2,q.q4,q.q5,q.q6,q.q7,dQ,rI h1,rI h2,zQ]
     repeat refine aA (by omega) ?_
     refine hK _ ?_;refine cL rfl (fun hd=>?_) (fun hd=>?_)
     ·have hd:a[i]=b[j]:=(hg _ (zi h1) _ (zi h2)).1 (by simpa using hd);rw[if_pos hd] at hn;refine cU ?_;simp only[xq,reduceIte,qE,qA,qL,qD];exact ok _ ⟨q.q0,q.q1,q.q2,q.q4,q.q5,q.q6,by rw[hn];rfl⟩
     ·have hd:¬ a[i]=b[j]:=fun hh=>(by simpa using hd:¬ g a[i]=g b[j]) (by rw[hh]);rw[if_neg hd] at hn;have dl:decide (((fU a b i (j+1):Nat):Int)≤((fU a b (i+1) j:Nat):Int))=decide (fU a b i (j+1)≤fU a b (i+1) j):=by rw[decide_eq_decide];omega
      have e1:=Jv (a:=a) (b:=b) (show i<a.length+1 by omega);have e2:=Jv (a:=a) (b:=b) (show i+1<a.length+1 by omega);have e3:=Ej (a:=a) (b:=b) (i:=i+1) (show j<b.length+1 by omega);have e4:=Ej (a:=a) (b:=b) (i:=i) (show j+1<b.length+1 by omega);refine uE (by simp) fun K2 hK2=>?_;simp only[zr,zP];refine eO (H:=t) 5 (fun sl=>WS16 g a b x i j 2 sl∧sl 49 = .bool false) (fun K' hK'=>?_) ?_
      ·simp only[xq,reduceIte,qE,qA,qL,qD,dQ,dj,d3,q.q0,q.q1,q.q2,q.q4,q.q5,q.q6,q.q7];exact hK' _ ⟨⟨q.q0,q.q1,q.q2,q.q4,q.q5,q.q6,q.q7⟩,rfl⟩
      rintro sl ⟨q,Bk⟩;refine eO (H:=t) 5 (fun sl=>WS16 g a b x i j 2 sl∧sl 49 = .bool false∧sl 54 = .bool true) (fun K' hK'=>eZ [(49,some false)] rfl (by simp[nR,Bk]) ?_) ?_
      ·simp only[xq,reduceIte,qE,qA,qL,qD,gO,pE,aB,aC,aE,dQ,hdi,d1,Bk,q.q0,q.q1,q.q2,q.q4,q.q5,q.q6,q.q7];exact hK' _ ⟨⟨q.q0,q.q1,q.q2,q.q4,q.q5,q.q6,q.q7⟩,Bk,rfl⟩
      rintro sl ⟨q,Bk,h55⟩;refine eZ [(49,some false),(54,some true)] rfl (by simp[nR,Bk,h55]) ?_;simp only[xq,reduceIte,qE,qA,qL,qD,gO,pE,aB,aC,aE,Bk,h55,q.q0,q.q1,q.q2,q.q4,q.q5,q.q6,q.q7,wi,wj,aB9,Yn,e1,e2,e3,e4,zQ,dl]
      repeat refine aA (by omega) ?_
      refine hK2 _ ?_;refine cL rfl (fun hd=>?_) (fun hd=>cQ ?_)
      ·have hd:=of_decide_eq_true hd;rw[if_pos hd] at hn;refine cU ?_;simp only[xq,reduceIte,qE,qA,qL,qD];exact ok _ ⟨q.q0,q.q1,q.q2,q.q4,q.q5,q.q6,by rw[hn];rfl⟩
      ·have hd:=of_decide_eq_false hd;rw[if_neg hd] at hn;exact⟨rfl,ok _ ⟨q.q0,q.q1,q.q2,q.q4,q.q5,q.q6,by rw[hn];exact q.q7⟩⟩
    ·have hj2:j=b.length:=by omega
     have d2:decide (j<b.length)=false:=decide_eq_false h2;have d3:decide (j=b.length)=true:=decide_eq_true hj2;rw[yC hj2] at hn;refine eO (H:=t) 6 (fun sl=>WS16 g a b x i j 2 sl∧sl 34 = .bool false) (fun K' hK'=>eZ [(28,some true)] rfl (by simp[nR,h28]) ?_) ?_
     ·simp only[xq,reduceIte,qE,qA,qL,qD,gO,pE,aB,aC,aE,dQ,hdj,d2,h28,q.q0,q.q1,q.q2,q.q4,q.q5,q.q6,q.q7];exact hK' _ ⟨⟨q.q0,q.q1,q.q2,q.q4,q.q5,q.q6,q.q7⟩,rfl⟩
     rintro sl ⟨q,h34⟩;refine eZ [(34,some false)] rfl (by simp[nR,h34]) ?_;simp only[xq,reduceIte,qE,qA,qL,qD,gO,pE,aB,aC,aE,aF,h34];refine hK _ ?_;refine cL rfl (fun hd=>by cases hd) (fun hd=>?_);refine uE (by simp) fun K2 hK2=>?_;simp only[zr,zP];refine eO (H:=t) 5 (fun sl=>WS16 g a b x i j 2 sl∧sl 49 = .bool true) (fun K' hK'=>?_) ?_
     ·simp only[xq,reduceIte,qE,qA,qL,qD,dQ,dj,d3,q.q0,q.q1,q.q2,q.q4,q.q5,q.q6,q.q7];exact hK' _ ⟨⟨q.q0,q.q1,q.q2,q.q4,q.q5,q.q6,q.q7⟩,rfl⟩
     rintro sl ⟨q,Bk⟩;refine eO (H:=t) 5 (fun sl=>WS16 g a b x i j 2 sl∧sl 49 = .bool true∧sl 54=cV) (fun K' hK'=>eZ [(49,some true)] rfl (by simp[nR,Bk]) ?_) ?_
     ·simp only[xq,reduceIte,qE,qA,qL,qD,gO,pE,aB,aC,aE,zE];exact hK' _ ⟨⟨q.q0,q.q1,q.q2,q.q4,q.q5,q.q6,q.q7⟩,Bk,rfl⟩
     rintro sl ⟨q,Bk,h55⟩;refine eZ [(49,some true),(54,none)] rfl (by simp[nR,Bk,h55]) ?_;simp only[xq,reduceIte,qE,qA,qL,qD,gO,pE,aB,aC,aE,zE,Bk];refine hK2 _ ?_;refine cL rfl (fun hd=>?_) (fun hd=>by cases hd);refine cU ?_;simp only[xq,reduceIte,qE,qA,qL,qD];exact ok _ ⟨q.q0,q.q1,q.q2,q.q4,q.q5,q.q6,by rw[hn];rfl⟩
   ·have h2:j<b.length:=by omega
    have d1:decide (i<a.length)=false:=decide_eq_false h1;have d3:decide (j=b.length)=false:=decide_eq_false (by omega);rw[yB h1 h2] at hn;refine uE (by simp) fun K hK=>?_;simp only[zr,zP];refine eO (H:=t) 5 (fun sl=>WS16 g a b x i j 2 sl∧sl 28 = .bool false) (fun K' hK'=>?_) ?_
    ·simp only[xq,reduceIte,qE,qA,qL,qD,dQ,hdi,d1];exact hK' _ ⟨⟨rfl,rfl,rfl,rfl,rfl,rfl,rfl⟩,rfl⟩
    rintro sl ⟨q,h28⟩;refine eO (H:=t) 6 (fun sl=>WS16 g a b x i j 2 sl∧sl 34 = .bool false) (fun K' hK'=>eZ [(28,some false)] rfl (by simp[nR,h28]) ?_) ?_
    ·simp only[xq,reduceIte,qE,qA,qL,qD,gO,pE,aB,aC,aE,aF,h28];exact hK' _ ⟨⟨q.q0,q.q1,q.q2,q.q4,q.q5,q.q6,q.q7⟩,rfl⟩
    rintro sl ⟨q,h34⟩;refine eZ [(34,some false)] rfl (by simp[nR,h34]) ?_;simp only[xq,reduceIte,qE,qA,qL,qD,gO,pE,aB,aC,aE,aF,h34];refine hK _ ?_;refine cL rfl (fun hd=>by cases hd) (fun hd=>?_);refine uE (by simp) fun K2 hK2=>?_;simp only[zr,zP];refine eO (H:=t) 5 (fun sl=>WS16 g a b x i j 2 sl∧sl 49 = .bool false) (fun K' hK'=>?_) ?_
    ·simp only[xq,reduceIte,qE,qA,qL,qD,dQ,dj,d3,q.q0,q.q1,q.q2,q.q4,q.q5,q.q6,q.q7];exact hK' _ ⟨⟨q.q0,q.q1,q.q2,q.q4,q.q5,q.q6,q.q7⟩,rfl⟩
    rintro sl ⟨q,Bk⟩;refine eO (H:=t) 5 (fun sl=>WS16 g a b x i j 2 sl∧sl 49 = .bool false∧sl 54 = .bool false) (fun K' hK'=>eZ [(49,some false)] rfl (by simp[nR,Bk]) ?_) ?_
    ·simp only[xq,reduceIte,qE,qA,qL,qD,gO,pE,aB,aC,aE,dQ,hdi,d1,Bk,q.q0,q.q1,q.q2,q.q4,q.q5,q.q6,q.q7];exact hK' _ ⟨⟨q.q0,q.q1,q.q2,q.q4,q.q5,q.q6,q.q7⟩,Bk,rfl⟩
    rintro sl ⟨q,Bk,h55⟩;refine eZ [(49,some false),(54,some false)] rfl (by simp[nR,Bk,h55]) ?_;simp only[xq,reduceIte,qE,qA,qL,qD,gO,pE,aB,aC,aE,aF,Bk,h55];refine hK2 _ ?_;refine cL rfl (fun hd=>by cases hd) (fun hd=>cQ ?_);exact⟨rfl,ok _ ⟨q.q0,q.q1,q.q2,q.q4,q.q5,q.q6,by rw[hn];exact q.q7⟩⟩
  rintro _ rfl;have wi:IntKind.i64.wrap ((i:Int)+1)=((i+1:Nat):Int):=by rw[cX (by omega)];omega
  have wj:IntKind.i64.wrap ((j:Int)+1)=((j+1:Nat):Int):=by rw[cX (by omega)];omega
  let T2:St:=⟨dB [(0,.d (.sl fL (eF g a))),(1,.d (.sl fL (eF g b))),(5,.d (.sl eW (nU a b))),(6,x),(7,.int (kL n i:Nat)),(8,.int j),(9,.int n)],t⟩;let T3:St:=⟨dB [(0,.d (.sl fL (eF g a))),(1,.d (.sl fL (eF g b))),(5,.d (.sl eW (nU a b))),(6,x),(7,.int (kL n i:Nat)),(8,.int (nA n j:Nat)),(9,.int n)],t⟩;have d2:decide ((n:Int)=2)=decide (n=2):=by rw[decide_eq_decide];omega
  have d1:decide ((n:Int)=1)=decide (n=1):=by rw[decide_eq_decide];omega
  refine eJ (· = T2) ?_ ?_
  ·simp only[T1];refine wR ?_;simp only[xq,reduceIte,qE,qA,qL,qD,d2];refine cL rfl (fun hd=>cU ?_) (fun hd=>cQ ?_)
   ·have hd:¬ n=2:=by simpa using hd
    simp only[xq,reduceIte,qE,qA,qL,qD,wi];refine⟨T2,Co.keep _ ?_,rfl⟩;simp[cJ,cK,kL,hd]
   ·have hd:n=2:=by simpa using hd
    refine⟨rfl,T2,Co.keep _ ?_,rfl⟩;simp[cJ,cK,kL,hd]
  rintro _ rfl;refine eJ (· = T3) ?_ ?_
  ·simp only[T2];refine wR ?_;simp only[xq,reduceIte,qE,qA,qL,qD,d1];refine cL rfl (fun hd=>cU ?_) (fun hd=>cQ ?_)
   ·have hd:¬ n=1:=by simpa using hd
    simp only[xq,reduceIte,qE,qA,qL,qD,wj];refine⟨T3,Co.keep _ ?_,rfl⟩;simp[cJ,cK,nA,hd]
   ·have hd:n=1:=by simpa using hd
    refine⟨rfl,T3,Co.keep _ ?_,rfl⟩;simp[cJ,cK,nA,hd]
  rintro _ rfl;have hks:k<(nL a b 0).length:=by
   have:=congrArg List.length (hx.trans mO);simp at this;omega
  have hgk:(Pa a b)[k]? = some n:=by
   have:(nL a b 0)[k]? = some (n,i):=by
    have h0:=congrArg (fun l=>l[0]?) (hx.trans mO);simpa using h0
   rw[Pa,zK,this];rfl
  have hxn:(nL a b 0).drop (k+1)=nL (a.drop (kL n i)) (b.drop (nA n j)) (kL n i):=by
   have:=congrArg (aB 1) (hx.trans mO);simpa[List.drop_drop,aM] using this
  have bnd:kL n i≤a.length∧nA n j≤b.length∧(a.length-kL n i)+(b.length-nA n j)<(a.length-i)+(b.length-j):=by
   have h3:n≠2→i<a.length:=fun h=>by
    rcases aN i a.length with h' | h'
    ·exact h'
    ·exact absurd (hn.trans (yB (by omega) (by omega))) h
   have h4:n≠1→j<b.length:=fun h=>by
    rcases aN j b.length with h' | h'
    ·exact h'
    ·exact absurd (hn.trans (yC (by omega))) h
   simp only[kL,nA];have:n=0∨n=1∨n=2:=by omega
   rcases this with h | h | h
   ·have:=h3 (by omega);have:=h4 (by omega);rw[if_neg (by omega),if_neg (by omega)];omega
   ·have:=h3 (by omega);rw[if_neg (by omega),if_pos h];omega
   ·have:=h4 (by omega);rw[if_pos h,if_neg (by omega)];omega
  simp only[T3];have aRf:k<(Pa a b).length:=by rw[Tz];exact hks
  have hwl:=Az a b 0;obtain⟨o,hod⟩:∃ o,o=(Pa a b).take k:=⟨_,rfl⟩;have hol:o.length=k:=by rw[hod,aR];omega
  have Pl:(Pa a b).take (k+1)=o++[n]:=by rw[aQ,hgk,hod];rfl
  rw[← hod] at ho;obtain⟨q,rfl,hq⟩:=ho;have Et:=(zA.1 hq).1;have gq:∀ t':cM,(t++t')[q]? = some (aDW o):=fun t'=>fB hq;have sq:∀ (t':cM) X,(t++t').set q X=t.set q X++t':=fun t' X=>zu _ _ Et;refine cU ?_;simp only[xq,reduceIte,qE,qA,qL,qD,zS,dA,gq,sq,uZ];refine⟨by simp only[dL];omega,by simp only[maxLen];omega,?_⟩;refine⟨_,S (.ref q (o.length+1) 0 (o.length+1) true) (t.set q (aDW (o++[n]))++[aDW [n]]) (kL n i) (nA n j),bnd.2.2,?_,kL n i,nA n j,k+1,_,_,bnd.1,bnd.2.1,rfl,rfl,hks,hxn,⟨q,by rw[Pl,zb];rfl,?_⟩⟩
  ·have:aDW (o++[n]) = .cells fL ((sX o).map (fun r=>r.map A.d)++[[.int n]]):=by simp only[aDW,aDV,aO];rfl
   rw[this];exact Co.keep _ (by simp[cJ,cK])
  ·rw[Pl,zF (by simpa using Et),zN Et]
 ·simp only[Bool.or_eq_false_iff,decide_eq_false_iff_not] at hc;have h1:i=a.length:=by omega
  have h2:j=b.length:=by omega
  subst h1 h2;simp only[aS,nL,List.map_nil] at hx;have Mt:k=(nL a b 0).length:=by
   have:=congrArg List.length hx;simp at this;omega
  simp only[xq,reduceIte,qE,qA,qL,qD,S1];refine wR ?_;simp only[xq,reduceIte,qE,qA,qL,qD];refine cT (.frz ?_);simp only[xq,reduceIte,qE,qA,qL,qD];rw[Mt,← Tz,aT] at ho;exact ho.frz
end
section
variable {P:Program}{N:Nat}{Γ:dP}
abbrev nuB(g:Gl→Int)(l:List Gl):HB:=.cells fL ((eF g l).map fun r=>r.map A.d)
theorem aLy{g:Gl→Int}{t:cM}{p:Nat}{l:List Gl}(h:t[p]? = some (nuB g l)):FrzD 0 t (.ref p l.length 0 l.length true) (.sl fL (eF g l)):=by
 have:=kE (k:=0) (off:=0) (len:=l.length) (full:=true) (e:=fL) (rows:=eF g l) (zI p) h (by rw[dQ];omega);rw[dQ,List.drop_zero,aJ (by rw[dQ];exact zL _)] at this;exact this
def Oh(g:Gl→Int)(e:Edt):List D:=[.sc (.int .i64 e.at'),.sc (.int .i64 e.del),.sl fL (eF g e.ins)]
def qB(g:Gl→Int)(l:List Edt):List (List D):=l.map (Oh g)
theorem mA{g:Gl→Int}{l:List Edt}:(qB g l).length=l.length:=by simp[qB]
theorem aCL{g:Gl→Int}{l:List Edt}{i:Nat}(hi:i<l.length):(qB g l).getD i []=Oh g l[i]:=by
 rw[qB,zC,zK,zB hi];rfl
def aPt(g:Gl→Int)(t:cM)(cp:Option Nat)(y:A)(l:List Gl):Prop:=(y = .nil∧l=[])∨∃ p,y = .ref p l.length 0 l.length true∧t[p]? = some (nuB g l)∧cp≠some p
def aQA(g:Gl→Int)(t:cM)(cp:Option Nat)(e:Edt)(y:A):Prop:=(y = .nil∧e.ins=[]∧cp=none)∨∃ p,y = .ref p e.ins.length 0 e.ins.length true∧t[p]? = some (nuB g e.ins)∧cp=some p
def aCM(g:Gl→Int)(t:cM)(cp:Option Nat)(es:List Edt)(R:List (List A)):Prop:=R.length=es.length∧∀ (i:Nat) (e:Edt),es[i]? = some e→∃ y,R[i]? = some (Bx e y)∧aPt g t cp y e.ins
def ScN(g:Gl→Int)(t:cM)(es:List Edt):Option Edt→Prop
 | none=>∃ R,t[0]? = some (.cells tD R)∧aCM g t none es R
 | some e=>∃ R y cp,t[0]? = some (.cells tD (R++[Bx e y]))∧aCM g t cp es R∧aQA g t cp e y
theorem aCM.keep{g:Gl→Int}{t t':cM}{cp cp':Option Nat}{es:List Edt}{R:List (List A)}(h:aCM g t cp es R)(hk:∀ (p:Nat) (l:List Gl),t[p]? = some (nuB g l)→cp≠some p→t'[p]? = some (nuB g l)∧cp'≠some p):aCM g t' cp' es R :=
 ⟨h.1,fun i e hi=>by
  obtain⟨y,h1,h2⟩:=h.2 i e hi;refine⟨y,h1,?_⟩;rcases h2 with h2 | ⟨p,h2,h3,h4⟩
  ·exact .inl h2
  ·exact .inr ⟨p,h2,(hk p _ h3 h4).1,(hk p _ h3 h4).2⟩⟩
theorem ScN.close{g:Gl→Int}{t:cM}{es:List Edt}{cur:Option Edt}(h:ScN g t es cur):ScN g t (es++cur.toList) none:=by
 cases cur with
 | none=>simpa using h
 | some e =>
  obtain⟨R,y,cp,h0,hR,hC⟩:=h;refine⟨R++[Bx e y],h0,by simp[hR.1],fun i e' hi=>?_⟩;rcases aN i es.length with cY | vX
  ·rw[zF cY] at hi;obtain⟨y',h1,h2⟩:=hR.2 i e' hi;refine⟨y',by rw[zF (by rw[hR.1];exact cY)];exact h1,?_⟩;rcases h2 with h2 | ⟨p,h2,h3,_⟩
   ·exact .inl h2
   ·exact .inr ⟨p,h2,h3,by simp⟩
  ·rw[zG vX] at hi;have h1:i-es.length=0:=by
    have:=(zA.1 hi).1;simp at this;omega
   rw[h1] at hi;simp at hi;subst hi;refine⟨y,by rw[zG (by rw[hR.1];exact vX),hR.1,h1];rfl,?_⟩;rcases hC with⟨rfl,h2,_⟩ | ⟨p,rfl,h2,_⟩
   ·exact .inl ⟨rfl,h2⟩
   ·exact .inr ⟨p,rfl,h2,by simp⟩
theorem ScN.frz{g:Gl→Int}{t:cM}{es:List Edt}(h:ScN g t es none):FrzA 0 t (.ref 0 es.length 0 es.length true) (.d (.sl tD (qB g es))):=by
 obtain⟨R,h0,hR⟩:=h;rw[← hR.1];have get:∀ (i:Nat) (r:List D),(qB g es)[i]? = some r→∃ (hi:i<es.length) (y:A),r=Oh g es[i]∧R.getD (0+i) []=Bx es[i] y∧aPt g t none y es[i].ins:=fun i r hi=>by
  have cY:i<es.length:=by have:=(zA.1 hi).1;rwa [mA] at this
  obtain⟨y,h1,h2⟩:=hR.2 i _ (zB cY);refine⟨cY,y,?_,?_,h2⟩
  ·rw[qB,zK,zB cY] at hi;simpa using hi.symm
  ·rw[aI,zC,h1];rfl
 refine .d (.ref (zI _) h0 (by rw[mA,hR.1]) (fun i r hi=>?_) (fun i r j d hi hj=>?_))
 ·obtain⟨_,y,rfl,h2,_⟩:=get i r hi;rw[h2];rfl
 ·obtain⟨_,y,rfl,h2,h4⟩:=get i r hi;rw[h2];rcases j with _ | _ | _ | j
  ·cases hj;exact .d _
  ·cases hj;exact .d _
  ·cases hj;rcases h4 with⟨rfl,h5⟩ | ⟨p,rfl,h5,_⟩
   ·rw[h5];exact .nil _
   ·exact aLy h5
  ·simp[Oh] at hj
theorem aCN{f fw:FuncId}(H:FnIs P f N [.t 4] (pS fw))(hN:2≤N){g:Gl→Int}(a b:List Gl)(ha:a.length≤50000)(hb:b.length≤50000)
  (Hw:FnP Γ P fw [.d (.sl fL (eF g a)),.d (.sl fL (eF g b))] (aLc (Pa a b))):FnP Γ P f [.d (.sl fL (eF g a)),.d (.sl fL (eF g b))] (.d (.sl tD (qB g (mH a b)))):=by
 refine .of_W H (by simpa using hN) ?_;have hwl:=Az a b 0;have hwS:=Tz (a:=a) (b:=b);obtain⟨w,Xo⟩:∃ w,w=Pa a b:=⟨_,rfl⟩;rw[← Xo] at Hw hwS;unfold pS;refine wR ?_;simp only[xq,reduceIte,qE,qA,qL,qD];refine wR ?_;simp only[xq,reduceIte,qE,qA,qL,qD];refine wR ?_;simp only[xq,reduceIte,qE,qA,qL,qD];refine dF (Hw) rfl ?_;simp only[xq,reduceIte,qE,qA,qL,qD];refine wR ?_;simp only[xq,reduceIte,qE,qA,qL,qD];refine wR ?_;simp only[xq,reduceIte,qE,qA,qL,qD];refine cN ?_;refine wR ?_;simp only[xq,reduceIte,qE,qA,qL,qD];refine cS ?_;let S:Nat→Bool→cM→Nat→Nat→Nat→St:=fun n o t i j k=>⟨dB [(0,.d (.sl fL (eF g a))),(1,.d (.sl fL (eF g b))),(5,.ref 0 n 0 n true),(6,aLc w),(7,.int i),(8,.int j),(9,.bool o),(10,.int k)],t⟩;refine dX (s':=S 0 false [.cells tD []] 0 0 0) (Co.keep _ (by simp[cJ,cK])) ?_;refine dN (fun m s=>∃ es cur i j k t,k≤w.length∧m=w.length-k∧s=S (es.length+cur.toList.length) cur.isSome t i j k∧ScI a b k es cur i j∧ScN g t es cur) ⟨[],none,0,0,0,_,zI _,rfl,rfl,⟨zI _,zI _,rfl,rfl,zL _,zL _,zL _⟩,⟨[],rfl,rfl,fun i e hi=>by simp at hi⟩⟩ ?_;rintro m s ⟨es,cur,i,j,k,t,hk,rfl,rfl,hI,hS⟩;simp only[S];refine cN ?_;refine wR ?_;simp only[xq,reduceIte,qE,qA,qL,qD,uZ];refine cL rfl (fun hc=>cQ ?_) (fun hc=>dJ ?_)
 ·have cY:k<w.length:=by simpa using hc
  have hk0:k<(nL a b 0).length:=by omega
  obtain⟨s,i',hp⟩:∃ s i',(nL a b 0)[k]=(s,i'):=⟨_,_,rfl⟩;have hks:(nL a b 0)[k]? = some (s,i'):=by rw[zB hk0,hp]
  have hsw:(sX w).getD k []=[.sc (.int .i64 s)]:=by
   rw[aDU cY];have:w[k]=s:=by simp[Xo,Pa,hp]
   rw[this]
  obtain⟨rfl,hz,hnz⟩:=hI.step hks;have w1:IntKind.i64.wrap ((k:Int)+1)=((k+1:Nat):Int):=by rw[cX (by omega)];omega
  have wi:i'≤100000:=by have:=hI.hi;omega
  have wj:j≤100000:=by have:=hI.hj;omega
  have w2:IntKind.i64.wrap ((i':Int)+1)=((i'+1:Nat):Int):=by rw[cX (by omega)];omega
  have w3:IntKind.i64.wrap ((j:Int)+1)=((j+1:Nat):Int):=by rw[cX (by omega)];omega
  simp only[xq,reduceIte,qE,qA,qL,qD];refine cN (cS ?_);refine cN ?_;refine wR ?_;simp only[xq,reduceIte,qE,qA,qL,qD,hsw,uZ,zQ]
  repeat refine aA (by omega) ?_
  refine cL rfl (fun hd=>?_) (fun hd=>cQ ?_)
  ·have hs0:s=0:=by simpa using hd
   obtain⟨hjb,hI'⟩:=hz hs0;refine wR ?_;simp only[xq,reduceIte,qE,qA,qL,qD,w2];refine wR ?_;simp only[xq,reduceIte,qE,qA,qL,qD,w3];refine wR ?_;simp only[xq,reduceIte,qE,qA,qL,qD];refine dJ ?_;simp only[xq,reduceIte,qE,qA,qL,qD];refine cU ?_;simp only[xq,reduceIte,qE,qA,qL,qD,w1];exact⟨w.length-(k+1),S ((es++cur.toList).length+0) false t (i'+1) (j+1) (k+1),by omega,Co.keep _ (by simp[cJ,cK]),_,none,_,_,_,_,cY,rfl,rfl,hI',hS.close⟩
  have hs0:¬ s=0:=by simpa using hd
  obtain⟨hs,h1,h2⟩:=hnz hs0;have b1:=hI.del;have b2:=hI.ins;have b3:=hI.es;obtain⟨e,hed⟩:∃ e,e=cur.getD ⟨i',0,[]⟩:=⟨_,rfl⟩;have c0:e.del≤k∧e.ins.length≤k:=by rw[hed];cases cur<;>exact⟨b1,b2⟩
  rw[Yp,← hed] at h1;rw[Yq,← hed] at h2;have wl:IntKind.i64.wrap (((es.length+1:Nat):Int)-1)=(es.length:Int):=by rw[cX (by omega)];omega
  refine eJ (fun s'=>∃ t1,ScN g t1 es (some e)∧s'=S (es.length+1) true t1 i' j k) ?_ ?_
  ·cases cur with
   | some e0 =>
    cases hed;refine wR ?_;simp only[xq,reduceIte,qE,qA,qL,qD];refine cL rfl (fun hd=>by cases hd) (fun hd=>cQ ?_);exact⟨rfl,_,Co.keep _ (by simp[cJ,cK]),t,hS,rfl⟩
   | none =>
    obtain⟨R,h0,hR⟩:=hS;have hRl:=hR.1;have hl0:=(zA.1 h0).1;have e0:∀ t':cM,(t++t')[0]? = some (.cells tD R):=fun t'=>fB h0;have s0:∀ (t':cM) X,(t++t').set 0 X=t.set 0 X++t':=fun t' X=>Br hl0;refine wR ?_;simp only[xq,reduceIte,qE,qA,qL,qD];refine cL rfl (fun hd=>?_) (fun hd=>by cases hd);refine wR ?_;simp only[xq,reduceIte,qE,qA,qL,qD,zS,dA,e0,s0,Option.toList,List.length_nil,Nat.add_zero]
    repeat refine aA (by first | omega | (simp only[dL];omega) | (simp only[maxLen];omega)) ?_
    refine cU ?_;simp only[xq,reduceIte,qE,qA,qL,qD];have hE:Bx e .nil=[.int i',.int 0,.nil]:=by rw[hed];rfl
    refine⟨S (es.length+1) true (t.set 0 (.cells tD (R++[[.int i',.int 0,.nil]]))++[.cells tD [[.int i',.int 0,.nil]]]) i' j k,Co.keep _ ?_,_,?_,rfl⟩
    ·simp[cJ,cK]
    ·refine⟨R,.nil,none,by rw[hE];exact xY hl0,hR.keep fun p l hp _=>⟨vR (fun hh=>iO h0 hp (by simp) hh) hp,by simp⟩,.inl ⟨rfl,by rw[hed];rfl,rfl⟩⟩
  rintro _ ⟨t1,⟨R,y,cp,h0,hR,hC⟩,rfl⟩;have hRl:=hR.1;have hl0:=(zA.1 h0).1;have rl:∀ r:List A,(R++[r])[es.length]? = some r:=fun r=>by rw[← hRl];exact Jx
  have rs:∀ r r':List A,(R++[r]).set es.length r'=R++[r']:=fun r r'=>by rw[← hRl];exact Jy
  simp only[S];refine wR ?_;simp only[xq,reduceIte,qE,qA,qL,qD,wl,h0,hRl,zb,aD];refine wR ?_;simp only[xq,reduceIte,qE,qA,qL,qD,hsw,uZ,zQ]
  repeat refine aA (by omega) ?_
  refine cL rfl (fun hd=>?_) (fun hd=>?_)
  ·have hs1:s=1:=by have hd:=of_decide_eq_true hd;omega
   have hI':=h1 hs1;have w4:IntKind.i64.wrap ((e.del:Int)+1)=((e.del+1:Nat):Int):=by rw[cX (by omega)];omega
   refine wR ?_;simp only[xq,reduceIte,qE,qA,qL,qD,h0,rl,rs,w4,hRl,zb,aD,zQ,aI]
   repeat refine aA (by omega) ?_
   refine cU ?_;simp only[xq,reduceIte,qE,qA,qL,qD,w2];refine cU ?_;simp only[xq,reduceIte,qE,qA,qL,qD,w1];obtain⟨e',Zh⟩:∃ e':Edt,e'={ e with del:=e.del+1 }:=⟨_,rfl⟩;rw[← Zh] at hI';have hE:Bx e' y=[.int e.at',.int ((e.del+1:Nat):Int),y]:=by rw[Zh]
   refine⟨w.length-(k+1),S (es.length+1) true (t1.set 0 (.cells tD (R++[[.int e.at',.int ((e.del+1:Nat):Int),y]]))) (i'+1) j (k+1),by omega,Co.keep _ (by simp[cJ,cK]),es,some e',_,_,_,_,cY,rfl,rfl,hI',?_⟩;refine⟨R,y,cp,by rw[hE];exact zN hl0,hR.keep fun p l hp hq=>⟨by rw[zM (iO h0 hp (by simp))];exact hp,hq⟩,?_⟩;rcases hC with⟨rfl,h5,h6⟩ | ⟨p,rfl,h5,h6⟩
   ·exact .inl ⟨rfl,by rw[Zh];exact h5,h6⟩
   ·exact .inr ⟨p,by rw[Zh],by rw[Zh,zM (iO h0 h5 (by simp))];exact h5,h6⟩
  ·have hs1:¬ s=1:=by have hd:=of_decide_eq_false hd;omega
   have hs2:s=2∧j<b.length:=by rcases hs with hs | hs;exact absurd hs hs1;exact hs
   have hI':=h2 hs2.1;have hjb:=hs2.2;have hg:(b.drop j).take 1=[b[j]]:=by rw[List.drop_eq_getElem_cons hjb];rfl
   rw[hg] at hI';obtain⟨e',Zh⟩:∃ e':Edt,e'={ e with ins:=e.ins++[b[j]] }:=⟨_,rfl⟩;rw[← Zh] at hI';have e0:∀ t':cM,(t1++t')[0]? = some (.cells tD (R++[Bx e y])):=fun t'=>fB h0;rcases hC with⟨rfl,h5,rfl⟩ | ⟨p,rfl,h5,rfl⟩
   ·have s0:∀ (t':cM) X,(t1++t').set 0 X=t1.set 0 X++t':=fun t' X=>Br hl0;have Qe:e'.ins=[b[j]]:=by rw[Zh];simp[h5]
    refine cN (eD (by simp) ?_);simp only[xq,reduceIte,qE,qA,qL,qD,e0,s0,rl,rs,hRl,zb,aD,dQ,rI hjb,zQ,aI,dA,eE,eT,rW]
    repeat refine aA (by omega) ?_
    rw[if_neg (by simp)];refine⟨by decide,by decide,?_⟩
    repeat refine aA (by omega) ?_
    refine cU ?_;simp only[xq,reduceIte,qE,qA,qL,qD,w3];refine cU ?_;simp only[xq,reduceIte,qE,qA,qL,qD,w1];have hE:Bx e' (.ref (t1.length+1) 1 0 1 true)=[.int e.at',.int e.del,.ref (t1.length+1) 1 0 1 true]:=by rw[Zh]
    refine⟨w.length-(k+1),S (es.length+1) true (t1.set 0 (.cells tD (R++[[.int e.at',.int e.del,.ref (t1.length+1) 1 0 1 true]]))++[.cells fL [[.int (g b[j])]],.cells fL [[.int (g b[j])]]]) i' (j+1) (k+1),by omega,Co.keep _ (by simp[cJ,cK]),es,some e',_,_,_,_,cY,rfl,rfl,hI',?_⟩;refine⟨R,.ref (t1.length+1) 1 0 1 true,some (t1.length+1),by rw[hE];exact xY hl0,hR.keep fun p l hp _=>⟨vR (iO h0 hp (by simp)) hp,fun hh=>?_⟩,.inr ⟨_,by rw[Qe];rfl,by rw[Qe,aID];rfl,rfl⟩⟩;have:=(zA.1 hp).1;simp at hh;omega
   ·have hlp:=(zA.1 h5).1;have p0:p≠0:=Ne.symm (iO h0 h5 (by simp));have ep:∀ t':cM,(t1++t')[p]? = some (nuB g e.ins):=fun t'=>fB h5;have sp:∀ (t':cM) X,(t1++t').set p X=t1.set p X++t':=fun t' X=>Br hlp;have e0':∀ (t':cM) X,(t1.set p X++t')[0]? = some (.cells tD (R++[Bx e (.ref p e.ins.length 0 e.ins.length true)])):=fun t' X=>vR p0 h0;have s0:∀ (t':cM) X Y,(t1.set p X++t').set 0 Y=(t1.set p X).set 0 Y++t':=fun t' X Y=>zu _ _ (by simpa using hl0);have Qe:nuB g e'.ins = .cells fL ((eF g e.ins).map (fun r=>r.map A.d)++[[.int (g b[j])]]):=by rw[Zh];simp[eF]
    have gZ:e'.ins.length=e.ins.length+1:=by rw[Zh];simp
    have rl1:((eF g e.ins).map fun r=>r.map A.d).length=e.ins.length:=by simp[eF]
    refine cN (eD (by simp) ?_);simp only[xq,reduceIte,qE,qA,qL,qD,e0,ep,sp,e0',s0,rl,rs,rl1,hRl,zb,aD,dQ,rI hjb,zQ,aI,dA,eE,eT,rW]
    repeat refine aA (by first | omega | (simp only[dL];omega) | (simp only[maxLen];omega)) ?_
    refine cU ?_;simp only[xq,reduceIte,qE,qA,qL,qD,w3];refine cU ?_;simp only[xq,reduceIte,qE,qA,qL,qD,w1];have hE:Bx e' (.ref p (e.ins.length+1) 0 (e.ins.length+1) true)=[.int e.at',.int e.del,.ref p (e.ins.length+1) 0 (e.ins.length+1) true]:=by rw[Zh]
    refine⟨w.length-(k+1),S (es.length+1) true ((t1.set p (.cells fL ((eF g e.ins).map (fun r=>r.map A.d)++[[.int (g b[j])]]))).set 0 (.cells tD (R++[[.int e.at',.int e.del,.ref p (e.ins.length+1) 0 (e.ins.length+1) true]]))++[.cells fL [[.int (g b[j])]],.res]) i' (j+1) (k+1),by omega,Co.keep _ (by simp[cJ,cK]),es,some e',_,_,_,_,cY,rfl,rfl,hI',?_⟩;refine⟨R,.ref p (e.ins.length+1) 0 (e.ins.length+1) true,some p,by rw[hE];exact xY (by simpa using hl0),hR.keep fun p' l hp hq=>⟨vR (iO h0 hp (by simp)) (by rw[zM (fun hh=>hq (by rw[hh]))];exact hp),hq⟩,.inr ⟨p,by rw[gZ],by rw[Qe];exact vR (Ne.symm p0) (zN hlp),rfl⟩⟩
 ·have gZ:k=w.length:=by simp at hc;omega
  have he:=hI.e;rw[gZ,hwS,aS,Pu] at he;have hS:=hS.close;rw[he] at hS;have eG:es.length+cur.toList.length=(mH a b).length:=by rw[← he,zb]
  simp only[xq,reduceIte,qE,qA,qL,qD];refine wR ?_;simp only[xq,reduceIte,qE,qA,qL,qD];refine cT (.frz ?_);simp only[xq,reduceIte,qE,qA,qL,qD,eG];exact hS.frz
end
section
variable {P:Program}{N:Nat}{Γ:dP}
def sZ(l:List Gl)(x:Gl):Int:=((l.findIdx fun y=>decide (y=x):Nat):Int)
theorem aFo{l:List Gl}{x:Gl}{j:Nat}(hj:j<l.length)(he:l[j]=x)(cY:∀ (k:Nat) (hk:k<j),l[k]≠x):sZ l x=j:=by
 unfold sZ;congr 1;rw[List.findIdx_eq hj];exact⟨decide_eq_true he,fun k hk=>decide_eq_false (cY k hk)⟩
theorem aJp{a b:List Gl}:Sep (sZ (a++b)) a b:=by
 intro x hx y hy;refine⟨fun h=>?_,fun h=>by rw[h]⟩;have h1:(a++b).findIdx (fun z=>decide (z=x))<(a++b).length:=aK ⟨x,List.mem_append_left _ hx,by simp⟩;have h2:(a++b).findIdx (fun z=>decide (z=y))<(a++b).length:=aK ⟨y,List.mem_append_right _ hy,by simp⟩;have e1:=aP (w:=h1);have e2:=aP (w:=h2);simp only[decide_eq_true_eq] at e1 e2;unfold sZ at h;have h:(a++b).findIdx (fun z=>decide (z=x))=(a++b).findIdx (fun z=>decide (z=y)):=by omega
 rw[← e1,← e2];simp only[h]
theorem aCO{g:Gl→Int}{l:List Gl}{x:Gl}:eF g (l++[x])=eF g l++[[.sc (.int .i64 (g x))]]:=by simp[eF]
theorem Ua{g:Gl→Int}{a b:List Gl}:eF g (a++b)=eF g a++eF g b:=by simp[eF]
def aLz(a b:List Gl):A:=.tup [.d (.sl fL (eF (sZ (a++b)) a)),.d (.sl fL (eF (sZ (a++b)) b))]
theorem aAM{f:FuncId}(H:FnIs P f N [.t 4,.t 5] nJ)(hN:2≤N)(a b:List Gl)(ha:a.length≤50000)(hb:b.length≤50000):FnP Γ P f [.d (.sl dW (cP a)),.d (.sl dW (cP b))] (aLz a b):=by
 refine .of_W H (by simpa using hN) ?_;obtain⟨l,hld⟩:∃ l,l=a++b:=⟨_,rfl⟩;have hll:l.length=a.length+b.length:=by rw[hld,zb]
 unfold nJ;refine wR ?_;simp only[xq,reduceIte,qE,qA,qL,qD];refine wR ?_;simp only[xq,reduceIte,qE,qA,qL,qD,cR]
 repeat refine aA (by first | omega | (simp only[dL];omega) | (simp only[maxLen];omega)) ?_
 refine dX (s':=⟨dB [(0,.d (.sl dW (cP a))),(1,.d (.sl dW (cP b))),(6,.d (.sl dW (cP l)))],[]⟩) (Co.frz _ 0 ?_ (zI _) (zI _) (by simp)) ?_
 ·intro p hp;simp only[List.mem_cons,List.not_mem_nil,or_false] at hp;rcases hp with rfl | rfl | rfl
  ·exact .same rfl
  ·exact .same rfl
  ·simp only[cJ,reduceIte,qE];have:=iJ (id:=0) (full:=true) (e:=dW) (rows:=cP l) (h:=[.cells dW ((cP a++cP b).map fun r=>r.map A.d)]) (by rw[hld];simp[cP]);rw[cR,aO,hll] at this;exact this
 refine wR ?_;simp only[xq,reduceIte,qE,qA,qL,qD];refine cN ?_;refine wR ?_;simp only[xq,reduceIte,qE,qA,qL,qD];refine cS ?_;let S:A→cM→Nat→St:=fun x t i=>⟨dB [(0,.d (.sl dW (cP a))),(1,.d (.sl dW (cP b))),(6,.d (.sl dW (cP l))),(7,x),(8,.int i)],t⟩;refine dX (s':=S (.ref 0 0 0 0 true) [nuB (sZ l) []] 0) (Co.keep _ (by simp[cJ,cK])) ?_;refine dN (fun m s=>∃ i q t,i≤l.length∧m=l.length-i∧s=S (.ref q i 0 i true) t i∧t[q]? = some (nuB (sZ l) (l.take i))) ⟨0,0,_,zI _,rfl,rfl,rfl⟩ ?_;rintro m s ⟨i,q,t,hi,rfl,rfl,hq⟩;simp only[S];refine cN ?_;refine wR ?_;simp only[xq,reduceIte,qE,qA,qL,qD,cR];refine cL rfl (fun hc=>cQ ?_) (fun hc=>dJ ?_)
 ·have cY:i<l.length:=by simpa using hc
  have w1:IntKind.i64.wrap ((i:Int)+1)=((i+1:Nat):Int):=by rw[cX (by omega)];omega
  have Et:=(zA.1 hq).1;simp only[xq,reduceIte,qE,qA,qL,qD];refine cN (cS ?_);refine wR ?_;simp only[xq,reduceIte,qE,qA,qL,qD];let T:Int→Nat→St:=fun n j=>⟨dB [(0,.d (.sl dW (cP a))),(1,.d (.sl dW (cP b))),(6,.d (.sl dW (cP l))),(7,.ref q i 0 i true),(8,.int i),(9,.int n),(10,.int j)],t⟩;refine eJ (fun s'=>∃ j,s'=T (sZ l l[i]) j) ?_ ?_
  ·refine wR ?_;simp only[xq,reduceIte,qE,qA,qL,qD];refine cS ?_;refine dX (s':=T i 0) (Co.keep _ (by simp[cJ,cK])) ?_;refine dN (fun m s=>∃ j,j≤i∧m=i-j∧s=T i j∧∀ (k:Nat) (hk:k<j) (Mt:k<l.length),l[k]≠l[i]) ⟨0,zI _,rfl,rfl,fun k hk=>absurd hk (Nat.not_lt_zero k)⟩ ?_;rintro m s ⟨j,hj,rfl,rfl,hno⟩;simp only[T];refine cN ?_;refine wR ?_;simp only[xq,reduceIte,qE,qA,qL,qD];refine cL rfl (fun hc=>cQ ?_) (fun hc=>dJ ?_)
   ·have qO:j<i:=by have:=of_decide_eq_true hc;omega
    have aPJ:j<l.length:=by omega
    have w2:IntKind.i64.wrap ((j:Int)+1)=((j+1:Nat):Int):=by rw[cX (by omega)];omega
    simp only[xq,reduceIte,qE,qA,qL,qD];refine cN (cS ?_);refine cN (eD (by simp) ?_);simp only[xq,reduceIte,qE,qA,qL,qD,eS cY,eS aPJ,Gl.row,Jn,cR,zQ]
    repeat refine aA (by omega) ?_
    refine cL rfl (fun hd=>?_) (fun hd=>cQ ?_)
    ·have hd:l[j]=l[i]:=by simpa using hd
     have hn:sZ l l[i]=j:=aFo aPJ hd fun k hk=>hno k hk (by omega);refine wR ?_;simp only[xq,reduceIte,qE,qA,qL,qD];refine dJ ?_;simp only[xq,reduceIte,qE,qA,qL,qD];exact⟨_,Co.keep _ (by simp[cJ,cK,hn]),j,rfl⟩
    ·have hd:¬ l[j]=l[i]:=by simpa using hd
     simp only[xq,reduceIte,qE,qA,qL,qD];refine cU ?_;simp only[xq,reduceIte,qE,qA,qL,qD,w2];refine⟨i-(j+1),T i (j+1),by omega,Co.keep _ (by simp[cJ,cK]),j+1,qO,rfl,rfl,fun k hk Mt=>?_⟩;rcases aN k j with h | h
     ·exact hno k h Mt
     ·have:k=j:=by omega
      subst this;exact hd
   ·have hji:j=i:=by have:=of_decide_eq_false hc;omega
    subst hji;have hn:sZ l l[j]=j:=aFo cY rfl fun k hk=>hno k hk (by omega);simp only[xq,reduceIte,qE,qA,qL,qD];exact⟨_,Co.keep _ (by simp[cJ,cK,hn]),j,rfl⟩
  rintro _ ⟨j,rfl⟩;have gq:∀ t':cM,(t++t')[q]? = some (nuB (sZ l) (l.take i)):=fun t'=>fB hq;have sq:∀ (t':cM) X,(t++t').set q X=t.set q X++t':=fun t' X=>zu _ _ Et;have vY:(l.take i).length=i:=by rw[aR];omega
  simp only[T];refine cU ?_;simp only[xq,reduceIte,qE,qA,qL,qD,zS,dA,gq,sq,dQ,vY]
  repeat refine aA (by first | omega | (simp only[dL];omega) | (simp only[maxLen];omega)) ?_
  refine cU ?_;simp only[xq,reduceIte,qE,qA,qL,qD,w1];have hB:nuB (sZ l) (l.take (i+1)) = .cells fL ((eF (sZ l) (l.take i)).map (fun r=>r.map A.d)++[[.int (sZ l l[i])]]):=by
   rw[aQ,zB cY,Option.toList_some,nuB,aCO,aO];rfl
  refine⟨l.length-(i+1),S (.ref q (i+1) 0 (i+1) true) (t.set q (.cells fL ((eF (sZ l) (l.take i)).map (fun r=>r.map A.d)++[[.int (sZ l l[i])]]))++[.cells fL [[.int (sZ l l[i])]]]) (i+1),by omega,Co.keep _ (by simp[cJ,cK]),i+1,q,_,cY,rfl,rfl,?_⟩;rw[hB];exact xY Et
 ·have gZ:i=l.length:=by simp at hc;omega
  subst gZ;rw[aT] at hq;simp only[xq,reduceIte,qE,qA,qL,qD];refine cN (eD (by simp) ?_);simp only[xq,reduceIte,qE,qA,qL,qD,cR,zQ,hq,zg,dQ]
  repeat refine aA (by first | omega | (simp only[dL];omega) | (simp only[maxLen];omega)) ?_
  refine cT ⟨.inr rfl,?_⟩;simp only[dK,eH,dM,cJ,reduceIte,qE];have f1:=Rk (k:=0) (off:=0) (len:=a.length) (full:=true) (e:=fL) (rows:=eF (sZ l) l) (zI q) hq (by rw[dQ];omega);have f2:=Rk (k:=0) (off:=a.length) (len:=b.length) (full:=true) (e:=fL) (rows:=eF (sZ l) l) (zI q) hq (by rw[dQ];omega);have e1:((eF (sZ l) l).drop 0).take a.length=eF (sZ (a++b)) a:=by
   rw[hld,Ua,List.drop_zero,List.take_append_of_le_length (by rw[dQ];exact zL _),aJ (by rw[dQ];exact zL _)]
  have e2:((eF (sZ l) l).drop a.length).take b.length=eF (sZ (a++b)) b:=by
   rw[hld,Ua,List.drop_append_of_le_length (by rw[dQ];exact zL _),List.drop_of_length_le (by rw[dQ];exact zL _),List.nil_append,aJ (by rw[dQ];exact zL _)]
  rw[e1,dQ] at f1;rw[e2,dQ] at f2;rw[show((a.length:Int)-((0:Nat):Int)).toNat=a.length by omega,show((l.length:Int)-(a.length:Int)).toNat=b.length by omega];unfold aLz;refine .tup rfl fun k y hk=>?_;rcases k with _ | _ | k
  ·cases hk;exact f1
  ·cases hk;exact f2
  ·simp at hk
end
end Go.Proofs.YtlllnjhgjijnkaaGreatDoor.Nx
