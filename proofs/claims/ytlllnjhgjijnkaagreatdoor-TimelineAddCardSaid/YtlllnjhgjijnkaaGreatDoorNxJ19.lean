import Derived.Test.YtlllnjhgjijnkaaGreatDoorNxJ6
import Derived.Test.YtlllnjhgjijnkaaGreatDoorNxDL
set_option linter.all false
open List renaming getElem?_eq_some_iff → zA, getElem?_append_left → zF, getElem?_map → zK, getElem?_set_ne → zM, getElem?_set_self → zN, append_assoc → zS, map_cons → zU, map_nil → zV, mem_cons_self → zW, mem_cons_of_mem → zZ, length_cons → za, replicate_zero → zr, set_append_left → zu
open Bool renaming true_eq_false → zE
open Nat renaming zero_le → zI, le_refl → zL
open Int renaming toNat_natCast → zQ
open Nat renaming reduceEqDiff → qE, reduceAdd → qA, reduceLT → qL, reduceLeDiff → qD
set_option maxHeartbeats 4000000
open List renaming take_of_length_le → aA, length_pos_iff → aD, getLastD_eq_getLast? → aE, take → aI, map_append → aJ, length_nil → aK, append_nil → aL
open And renaming intro → aB
open Bool renaming and_eq_false_iff → aC, not_eq_true' → aF, or_eq_false_iff → aG
open Int renaming toNat_zero → aH
namespace Go.Proofs.YtlllnjhgjijnkaaGreatDoor.Nx
open Go
section
variable {P:Program}{N:Nat}{Γ:dP}
abbrev Ki(Γ:dP)(P:Program)(f:FuncId):Prop:=∀ n:Int,FnP Γ P f [.int n] (.bool (decide (0≤n)&&decide (n≤nV)))
theorem aJe{f:FuncId}(H:FnIs P f N [.t 2] Aj)(hN:1≤N):Ki Γ P f:=by
 intro n;refine .of_W H (by simpa using hN) ?_;unfold Aj;refine wR ?_;simp only[xq,reduceIte,qE,qA,qL,qD];refine Zz fun K hK=>?_;cases e:decide (0≤n)
 ·simp only[xq,reduceIte,qE,qA,qL,qD,e,cV,zE];exact hK _ (cT (.tmp (by simp only[cJ,reduceIte,e,Bool.false_and]) rfl))
 ·simp only[xq,reduceIte,qE,qA,qL,qD,e,cV,zE];exact hK _ (cT (.tmp (by simp only[cJ,reduceIte,e,Bool.true_and];rfl) rfl))
theorem aJf{f:FuncId}(H:FnIs P f N [.t 2] Af)(hN:1≤N):Bf Γ P f:=by
 intro t hf hl;refine .of_W H (by simpa using hN) ?_;have w1:IntKind.i64.wrap (t.first+(t.steps.length:Int))=aFe t:=by rw[cX (by omega)];rfl
 unfold Af;simp only[rT,Tl.ds,zU,zV];refine wR ?_;simp only[xq,reduceIte,qE,qA,qL,qD];refine wR ?_;simp only[xq,reduceIte,qE,qA,qL,qD,dR,w1];refine cT (.tmp ?_ rfl);simp only[cJ,reduceIte]
def lZ(l:List Vw):List (List D):=l.map Vw.ds
theorem vD{l:List Vw}:(lZ l).length=l.length:=by simp[lZ]
abbrev aJg(l:List Vw):HB:=.cells pA ((lZ l).map fun r=>r.map A.d)
def rvA(t:Tl):A:=if iW t=0 then .tup [.d (.sl pA (lZ (fQ t.base t.steps))),.int 0] else .tup [.nil,.int (iW t)]
abbrev Ts(Γ:dP)(P:Program)(f:FuncId):Prop:=∀ t:Tl,TOk t.base t.steps→FnP Γ P f [rT t] (rvA t)
theorem aLu{k q:Nat}{h:cM}{l:List Vw}(hk:k≤q)(hq:h[q]? = some (aJg l)):FrzA k h (.ref q l.length 0 l.length true) (.d (.sl pA (lZ l))):=by
 have:=kE (k:=k) (id:=q) (off:=0) (len:=l.length) (full:=true) (e:=pA) (rows:=lZ l) hk hq (by rw[vD];omega);rw[vD,List.drop_zero,aA (by rw[vD];exact zL _)] at this;exact .d this
theorem TWalk.take{v w:Vw}{l:List Stp}{i:Nat}(t:TWalk v l i w):((fQ v l).take (i+1)).length=i+1:=by
 have:=t.len;rw[List.length_take,fQ,za];omega
theorem TWalk.takeS{v w w':Vw}{l:List Stp}{i:Nat}(t:TWalk v l (i+1) w'):(fQ v l).take (i+1+1)=(fQ v l).take (i+1)++[w']:=by
 rw[List.take_add_one,t.at'];rfl
theorem TWalk.getT{v w:Vw}{l:List Stp}{i:Nat}(t:TWalk v l i w):((lZ ((fQ v l).take (i+1))).map fun r=>r.map A.d)[i]? = some (w.ds.map .d):=by
 rw[zK,lZ,zK,List.getElem?_take,if_pos (Nat.lt_succ_self i),t.at'];rfl
theorem aG9{f ft fv fa:FuncId}(H:FnIs P f N [.t 2,.t 3] (wQ ft fv fa))(hN:1≤N)(Ht:Ki Γ P ft)(Hv:sY Γ P fv)(Ha:aGz Γ P fa):Ts Γ P f:=by
 intro t lG;refine .of_W H (by simpa using hN) ?_;have hv:=Hv t.base lG.sm;have ht:=Ht t.began;unfold wQ;simp only[rT,Tl.ds,fF,Vw.ds,zU,zV] at hv ⊢;have fin:∀ (sl:Nat→A) (h:cM) (r:Int),sl 2 = .nil→sl 3 = .int r→iW t=r→r≠0→Bw [.t 2,.t 3] (rvA t) .ret ⟨sl,h⟩:=fun sl h r h2 h3 hr hn=>by
  rw[rvA,if_neg (by rw[hr];exact hn),hr];refine⟨.inr rfl,?_⟩;simp only[dK,eH,dM,h2,h3];exact .same rfl
 refine wR ?_;simp only[xq,reduceIte,qE,qA,qL,qD];obtain⟨g,hgd⟩:∃ g,g=((decide (t.first<0)||decide (999999999<t.first)) || !(decide (0≤t.began)&&decide (t.began≤nV))):=⟨_,rfl⟩;refine cN ?_;refine eJ (· = ⟨dB [(1,.ptr 0 1 0 0),(25,.bool g)],[rE t]⟩) (cU ?_) ?_
 ·refine fS 8 fun K1 hK1=>?_;have q1:∀ a:Int,decide ((999999999:Int)<a)=decide (999999999<a):=fun _=>rfl;cases e1:decide (t.first<0)
  ·simp only[xq,reduceIte,qE,qA,qL,qD,Tl.ds,e1,cV,zE];refine hK1 _ ?_;clear hK1 K1;cases e2:decide (999999999<t.first)
   ·simp only[xq,reduceIte,qE,qA,qL,qD,Tl.ds,cV,zE];refine dF (ht) rfl ?_;simp only[xq,reduceIte,qE,qA,qL,qD];exact⟨_,Co.keep _ (by simp[cJ,cK,hgd,e1,e2]),rfl⟩
   ·simp only[xq,reduceIte,qE,qA,qL,qD,Tl.ds,cV,zE];exact⟨_,Co.keep _ (by simp[cJ,cK,hgd,e1,e2]),rfl⟩
  ·simp only[xq,reduceIte,qE,qA,qL,qD,Tl.ds,e1,cV,zE];refine hK1 _ ?_;clear hK1 K1;simp only[xq,reduceIte,qE,qA,qL,qD,cV,zE];exact⟨_,Co.keep _ (by simp[cJ,cK,hgd,e1]),rfl⟩
 rintro _ rfl;have hg0:(t.first<0∨999999999<t.first∨t.began<0∨nV<t.began)↔g=true:=by
  rw[hgd];simp only[Bool.or_eq_true,decide_eq_true_eq,aF,aC,decide_eq_false_iff_not];omega
 refine cL rfl (fun hg=>?_) (fun hg=>cQ ?_)
 ·refine wR ?_;simp only[xq,reduceIte,qE,qA,qL,qD];exact cT (fin _ _ 2 rfl rfl (by rw[iW,if_pos (hg0.2 hg)]) (by decide))
 have hg1:¬ (t.first<0∨999999999<t.first∨t.began<0∨nV<t.began):=fun h=>by rw[hg0.1 h] at hg;cases hg
 simp only[xq,reduceIte,qE,qA,qL,qD];refine wR ?_;simp only[xq,reduceIte,qE,qA,qL,qD,Tl.ds];refine dF (hv) rfl ?_;simp only[xq,reduceIte,qE,qA,qL,qD];refine cN ?_;refine wR ?_;simp only[xq,reduceIte,qE,qA,qL,qD];refine cL rfl (fun hk=>?_) (fun hk=>cQ ?_)
 ·have hk:dO t.base≠0:=by simpa using hk
  refine wR ?_;simp only[xq,reduceIte,qE,qA,qL,qD];exact cT (fin _ _ (dO t.base) rfl rfl (by rw[iW,if_neg hg1,if_pos hk]) hk)
 have hk:¬ dO t.base≠0:=by simpa using hk
 simp only[xq,reduceIte,qE,qA,qL,qD];refine cN ?_;refine wR ?_;simp only[xq,reduceIte,qE,qA,qL,qD,Tl.ds,dR];refine cL rfl (fun hl=>?_) (fun hl=>cQ ?_)
 ·refine wR ?_;simp only[xq,reduceIte,qE,qA,qL,qD];exact cT (fin _ _ 5 rfl rfl (by rw[iW,if_neg hg1,if_neg hk,if_pos (by have:=of_decide_eq_true hl;omega)]) (by decide))
 have hl:¬ 200<t.steps.length:=by have:=of_decide_eq_false hl;omega
 have aEB:iW t=Bc t.began t.base t.steps:=by rw[iW,if_neg hg1,if_neg hk,if_neg hl]
 simp only[xq,reduceIte,qE,qA,qL,qD];refine wR ?_;simp only[xq,reduceIte,qE,qA,qL,qD,Tl.ds];refine wR ?_;simp only[xq,reduceIte,qE,qA,qL,qD,Tl.ds];refine cN ?_;refine wR ?_;simp only[xq,reduceIte,qE,qA,qL,qD];refine cS ?_;let S:Nat→Int→cM→St:=fun i last hp=>⟨dB [(1,.ptr 0 1 0 0),(5,.ref 1 (i+1) 0 (i+1) true),(6,.int last),(7,.int i)],hp⟩;refine dX (s':=S 0 t.began [rE t,aJg [t.base]]) (Co.keep _ (by simp[cJ,cK,Tl.ds])) ?_;refine dN (fun m s=>∃ i w last hp,m=t.steps.length-i∧s=S i last hp∧TWalk t.base t.steps i w∧0≤last∧Bc last w (t.steps.drop i)=iW t∧hp[0]? = some (rE t)∧hp[1]? = some (aJg ((fQ t.base t.steps).take (i+1))))
  ⟨0,t.base,t.began,_,rfl,rfl,.zero lG,by omega,by rw[aEB];rfl,rfl,rfl⟩ ?_
 rintro m s ⟨i,w,last,hp,rfl,rfl,tw,hl0,Fe,hp0,hp1⟩;have aPI:=tw.le;have g0:∀ tt:cM,(hp++tt)[0]? = some (rE t):=fun tt=>fB hp0;have g1:∀ tt:cM,(hp++tt)[1]? = some (aJg ((fQ t.base t.steps).take (i+1))):=fun tt=>fB hp1;have La:2≤hp.length:=(zA.1 hp1).1;simp only[S];refine cN (cN ?_);refine cU ?_;simp only[xq,reduceIte,qE,qA,qL,qD,hp0,Tl.ds,dR];refine cL rfl (fun hc=>cQ ?_) (fun hc=>dJ ?_)
 ·have cY:i<t.steps.length:=by simpa using hc
  have w1:IntKind.i64.wrap ((i:Int)+1)=((i+1:Nat):Int):=by rw[cX (by omega)];omega
  obtain⟨s,hs⟩:∃ s,s=t.steps[i]:=⟨_,rfl⟩;have fE:=tw.run cY;have iH:=tw.step cY;have hsg:(fD t.steps).getD i []=s.ds:=by rw[lY cY,← hs]
  rw[List.drop_eq_getElem_cons cY,Bc] at Fe;rw[← hs] at fE iH Fe;have Qb:=Ha w s.chs fE.1 fE.2;have hts:=Ht s.time;have hgw:=tw.getT;have Im:=tw.take;generalize hvs:(fQ t.base t.steps).take (i+1)=vs at *;have hvl:(lZ vs).length=i+1:=by rw[vD,Im]
  obtain⟨w',i',e',hq'⟩:∃ w' i' e',dU w s.chs=(w',i',e'):=⟨_,_,_,rfl⟩;rw[hq'] at Qb iH Fe;simp only at iH Fe;simp only[apA,fF,Vw.ds,zU,zV] at Qb;simp only[xq,reduceIte,qE,qA,qL,qD];refine cN (cS ?_);refine wR ?_;simp only[xq,reduceIte,qE,qA,qL,qD,hp0,dR,hsg,Tl.ds,Stp.ds,zQ,dA,eE]
  repeat refine aB (by omega) ?_
  refine cN ?_;refine wR ?_;simp only[xq,reduceIte,qE,qA,qL,qD,dA];refine cL rfl (fun h1=>?_) (fun h1=>cQ ?_)
  ·have h1:s.time<last:=by simpa using h1
   rw[if_pos h1] at Fe;refine wR ?_;simp only[xq,reduceIte,qE,qA,qL,qD];exact cT (fin _ _ 10 rfl rfl Fe.symm (by decide))
  have h1:¬ s.time<last:=by simpa using h1
  rw[if_neg h1] at Fe;simp only[xq,reduceIte,qE,qA,qL,qD];refine cN ?_;refine wR ?_;simp only[xq,reduceIte,qE,qA,qL,qD,dA];refine dF (hts) rfl ?_;simp only[xq,reduceIte,qE,qA,qL,qD];refine cL rfl (fun h2=>?_) (fun h2=>cQ ?_)
  ·have h2:nV<s.time:=by
    simp only[aF,aC,decide_eq_false_iff_not] at h2;omega
   rw[if_pos h2] at Fe;refine wR ?_;simp only[xq,reduceIte,qE,qA,qL,qD];exact cT (fin _ _ 2 rfl rfl Fe.symm (by decide))
  have h2:¬ nV<s.time:=by
   simp only[Bool.not_eq_false',Bool.and_eq_true,decide_eq_true_eq] at h2;omega
  rw[if_neg h2] at Fe;simp only[xq,reduceIte,qE,qA,qL,qD];refine wR ?_;simp only[xq,reduceIte,qE,qA,qL,qD,dA];refine cN (eD (by simp) ?_);have g1':∀ (tt u:cM),((hp++tt)++u)[1]? = some (aJg vs):=fun tt u=>by rw[zS];exact g1 _
  simp only[xq,reduceIte,qE,qA,qL,qD,dA,eT,fC,eE,iV,g1,g1',hgw,Vw.ds,zQ,zS]
  repeat refine aB (by omega) ?_
  refine dF (Qb) rfl ?_;simp only[xq,reduceIte,qE,qA,qL,qD,dA,eT,fC,eE,iV,zS];refine cN (cN ?_);refine cU ?_;simp only[xq,reduceIte,qE,qA,qL,qD];refine cL rfl (fun h3=>?_) (fun h3=>cQ ?_)
  ·have h3:e'≠0:=by simpa using h3
   rw[if_pos h3] at Fe;refine wR ?_;simp only[xq,reduceIte,qE,qA,qL,qD];exact cT (fin _ _ e' rfl rfl Fe.symm h3)
  have h3:¬ e'≠0:=by simpa using h3
  rw[if_neg h3] at Fe;have h3:e'=0:=by simpa using h3
  subst h3;have hw:=iH rfl;simp only[xq,reduceIte,qE,qA,qL,qD];have e1:∀ (tt:cM) X,(hp++tt).set 1 X=hp.set 1 X++tt:=fun tt X=>zu _ _ (by omega);refine cU ?_;simp only[xq,reduceIte,qE,qA,qL,qD,dA,eT,fC,g1,e1,zS,hvl];have aEK:=hw.takeS (w:=w');rw[hvs] at aEK;refine⟨by simp only[dL];omega,by simp only[maxLen];omega,?_⟩;refine cU ?_;simp only[xq,reduceIte,qE,qA,qL,qD,w1];refine⟨t.steps.length-(i+1),S (i+1) s.time _,by omega,Co.keep [(1,.ptr 0 1 0 0),(5,.ref 1 (i+1+1) 0 (i+1+1) true),(6,.int s.time),(7,.int ((i+1:Nat):Int))] (by simp[cJ,cK]),i+1,w',s.time,_,rfl,rfl,hw,by omega,Fe,?_,?_⟩
  ·rw[zF (by simp;omega),zM (by omega)];exact hp0
  ·rw[zF (by simp;omega),zN (by omega),aEK];show some (HB.cells pA _)=some (HB.cells pA ((lZ (vs++[w'])).map fun r=>r.map A.d));simp only[lZ,aJ];rfl
 ·have Zi:i=t.steps.length:=by have:=of_decide_eq_false hc;omega
  subst Zi;rw[List.drop_length,Bc] at Fe;have hz:(fQ t.base t.steps).take (t.steps.length+1)=fQ t.base t.steps:=aA (by rw[fQ,za,tw.fin];exact zL _);have hvl:(fQ t.base t.steps).length=t.steps.length+1:=by rw[fQ,za,tw.fin]
  rw[hz] at hp1;rw[rvA,if_pos Fe.symm];simp only[xq,reduceIte,qE,qA,qL,qD];refine wR ?_;simp only[xq,reduceIte,qE,qA,qL,qD];refine cT ⟨.inr rfl,?_⟩;simp only[dK,eH,dM,cJ,reduceIte,qE,cK,gQ,xq,reduceIte,qE,qA,qL,qD,dI];refine rH ?_ (.same rfl);rw[← hvl];exact aLu (zI _) hp1
end
section
variable {P:Program}{N:Nat}{Γ:dP}
theorem Za{b:Int}{v:Vw}{s:Stp}{l:List Stp}(hc:Bc b v (s::l)=0):b≤s.time∧(dU v s.chs).2.2=0∧Bc s.time (dU v s.chs).1 l=0:=by
 rw[Bc] at hc;split at hc
 ·cases hc
 ·split at hc
  ·cases hc
  ·split at hc
   ·rename_i h1;exact absurd hc h1
   ·rename_i h1 _ h2;exact⟨by omega,by simpa using h2,hc⟩
theorem aNM{t:Tl}(h:iW t=0):rvA t = .tup [.d (.sl pA (lZ (fQ t.base t.steps))),.int 0]:=by rw[rvA,if_pos h]
theorem aLv{t:Tl}(h:iW t≠0):rvA t = .tup [.nil,.int (iW t)]:=by rw[rvA,if_neg h]
theorem Tt{l:List Vw}{i:Nat}{v:Vw}(h:l[i]? = some v):(lZ l).getD i []=v.ds:=by
 rw[List.getD_eq_getElem?_getD,lZ,zK,h];rfl
end
section
variable {P:Program}{N:Nat}{Γ:dP}
abbrev aAH(Γ:dP)(P:Program)(f:FuncId):Prop:=∀ (n b:Int) (u v:Vw) (s:Stp) (l:List Stp), -1000000000000≤n∧n≤1000000000000→l.length≤1000→FnP Γ P f [rT ⟨n,b,u,s::l⟩,fF v] (rT ⟨n+1,s.time,v,l⟩)
theorem aCD{f:FuncId}(H:FnIs P f N [.c 4 9 true] sO)(hN:2≤N):aAH Γ P f:=by
 intro n b u v s l hn hl;refine .of_W H (by simpa using hN) ?_;have w1:IntKind.i64.wrap (n+1)=n+1:=cX (by omega);have hds:fD (s::l)=s.ds::fD l:=rfl;have ht:∀ x:List D,aI ((((fD l).length+1:Nat):Int)-1).toNat (List.drop (Int.toNat 1) (x::fD l))=fD l:=fun x=>by
  show aI _ (fD l)=_;exact aA (by omega)
 unfold sO;simp only[rT,Tl.ds,fF,Vw.ds,zU,zV];refine wR ?_;simp only[xq,reduceIte,qE,qA,qL,qD];refine cN (eD (by simp[cJ,cK,dB,A.touch]) ?_);simp only[xq,reduceIte,qE,qA,qL,qD,Tl.ds,hds,w1,Stp.ds,Vw.ds,ht]
 repeat refine aB (by omega) ?_
 rw[dR];refine⟨by simp only[dL];omega,by simp only[maxLen];omega,cT ⟨.inr rfl,?_⟩⟩;simp only[dK,eH,dM,cJ,reduceIte,qE,cK,gQ,xq,reduceIte,qE,qA,qL,qD,dI];exact aFg (t:=⟨n+1,s.time,v,l⟩) (q:=3) (zI _) rfl
theorem aCE{b:Int}{v:Vw}{s:Stp}{l:List Stp}(hc:Bc b v (s::l)=0):fQ v (s::l)=v::fQ (dU v s.chs).1 l:=by
 rw[fQ,fW,if_pos (Za hc).2.1,fQ]
end
section
variable {P:Program}{N:Nat}{Γ:dP}
theorem Kj{n:Int}:(!(decide (0≤n)&&decide (n≤nV)))=true↔n<0∨nV<n:=by
 simp only[aF,aC,decide_eq_false_iff_not];omega
theorem aJh{f fv ft:FuncId}(H:FnIs P f N [.c 4 9 true] (Cr fv ft))(hN:2≤N)(Hv:sY Γ P fv)(Ht:Ki Γ P ft):Gx Γ P f:=by
 intro v n sm;refine .of_W H (by simpa using hN) ?_;have hv:=Hv v sm;have ht:=Ht n;unfold Cr;simp only[fF,Vw.ds,zU,zV] at hv ⊢;refine wR ?_;simp only[xq,reduceIte,qE,qA,qL,qD];obtain⟨g,hg⟩:∃ g,g=(!decide (dO v=0) || !(decide (0≤n)&&decide (n≤nV))):=⟨_,rfl⟩;refine cN ?_;refine eJ (· = ⟨dB [(1,.int n),(2,.ptr 0 1 0 0),(4,.ptr 1 1 0 0),(12,.bool g)],[fX v,Py]⟩) (cU ?_) ?_
 ·simp only[xq,reduceIte,qE,qA,qL,qD];refine dF (hv) rfl ?_;simp only[xq,reduceIte,qE,qA,qL,qD];cases e1:decide (dO v=0)
  ·simp only[xq,reduceIte,qE,qA,qL,qD,e1,cV,zE];exact⟨_,Co.keep _ (by simp[cJ,cK,hg,e1]),rfl⟩
  ·simp only[xq,reduceIte,qE,qA,qL,qD,e1,cV,zE];refine dF (ht) rfl ?_;simp only[xq,reduceIte,qE,qA,qL,qD];exact⟨_,Co.keep _ (by simp[cJ,cK,hg,e1]),rfl⟩
 rintro _ rfl;refine cL rfl (fun hc=>?_) (fun hc=>cQ ?_)
 ·have hT:Lz v n=lC:=by
   rw[Lz,if_pos];rw[hc] at hg;rcases Bool.or_eq_true_iff.1 hg.symm with h | h
   ·exact .inl (by simpa using h)
   ·exact .inr (Kj.1 h)
  rw[hT];refine wR ?_;simp only[xq,reduceIte,qE,qA,qL,qD];refine cT ⟨.inr rfl,?_⟩;simp only[dK,eH,dM,cJ,reduceIte,qE,cK,gQ,xq,reduceIte,qE,qA,qL,qD,dI];exact rU
 ·have hT:Lz v n=⟨0,n,v,[]⟩:=by
   rw[Lz,if_neg];rw[hc] at hg;obtain⟨h1,h2⟩:=aG.1 hg.symm;rintro(h | h)
   ·exact h (by simpa using h1)
   ·rw[Kj.2 h] at h2;cases h2
  rw[hT];simp only[xq,reduceIte,qE,qA,qL,qD];refine wR ?_;simp only[xq,reduceIte,qE,qA,qL,qD,Vw.ds];refine cT ⟨.inr rfl,?_⟩;simp only[dK,eH,dM,cJ,reduceIte,qE,cK,gQ,xq,reduceIte,qE,qA,qL,qD,dI];exact aFh (t:=⟨0,n,v,[]⟩) rfl
theorem aLw{n:Int}{l:List Stp}(h:l≠[]):Ke n l=(l[l.length-1]'(by have:=aD.2 h;omega)).time:=by
 rw[Ke,aE,List.getLast?_map,List.getLast?_eq_getElem?,List.getElem?_eq_getElem (by have:=aD.2 h;omega)];rfl
abbrev aEj(Γ:dP)(P:Program)(f:FuncId):Prop:=∀ t:Tl,t.steps.length≤1000→FnP Γ P f [rT t] (.int (Ke t.began t.steps))
theorem aHa{f:FuncId}(H:FnIs P f N [.t 2] wS)(hN:1≤N):aEj Γ P f:=by
 intro t hl;refine .of_W H (by simpa using hN) ?_;unfold wS;obtain⟨r,hr⟩:∃ r,r=Ke t.began t.steps:=⟨_,rfl⟩;rw[← hr];simp only[rT,Tl.ds,zU,zV];refine wR ?_;simp only[xq,reduceIte,qE,qA,qL,qD];refine cN ?_;refine wR ?_;simp only[xq,reduceIte,qE,qA,qL,qD,Tl.ds,dR];refine cL rfl (fun hc=>?_) (fun hc=>cQ ?_)
 ·have h0:t.steps=[]:=List.eq_nil_of_length_eq_zero (by have:=of_decide_eq_true hc;omega);rw[h0] at hr;refine wR ?_;simp only[xq,reduceIte,qE,qA,qL,qD,Tl.ds];exact cT (.tmp (by simp only[cJ,reduceIte];rw[hr];rfl) rfl)
 ·have h0:t.steps≠[]:=fun h=>by rw[h] at hc;simp at hc
  have hp:=aD.2 h0;have cY:t.steps.length-1<t.steps.length:=by omega
  have w1:IntKind.i64.wrap ((t.steps.length:Int)-1)=((t.steps.length-1:Nat):Int):=by rw[cX (by omega)];omega
  rw[aLw h0] at hr;have hsg:=lY cY;simp only[xq,reduceIte,qE,qA,qL,qD];refine wR ?_;simp only[xq,reduceIte,qE,qA,qL,qD,Tl.ds,dR,w1,hsg,Stp.ds,zQ]
  repeat refine aB (by omega) ?_
  exact cT (.tmp (by simp only[cJ,reduceIte];rw[hr]) rfl)
theorem aCF{α:Type}:∀ {l:List α} {v:α},(v::l)[l.length]? = some (l.getLastD v)
 | [],v=>rfl
 | y::l,v=>by rw[za,List.getElem?_cons_succ,aCF,List.getLastD_cons]
theorem aJi{f fs fv ft fn fe fd fr:FuncId}(H:FnIs P f N [.c 6 9 true,.t 7] (Cs fs fv ft fn fe fd fr))(hN:3≤N)(Hs:Ts Γ P fs)(Hv:sY Γ P fv)(Ht:Ki Γ P ft)(Hn:aEj Γ P fn)(He:Lp Γ P fe)
  (Hd:Lx Γ P fd) (Hr:aAH Γ P fr):Gz Γ P f:=by
 intro t v n lG sv sw;obtain⟨r,hr⟩:∃ r,Dl t v n=r:=⟨_,rfl⟩;rw[hr];refine .of_W H (by simpa using hN) ?_;have hs:=Hs t lG;have hv:=Hv v (sv.mono (by omega));have ht:=Ht n;unfold Cs
 by_cases hk:iW t=0
 case neg =>
  rw[aLv hk] at hs;rw[show r=(lC,iW t) by rw[← hr,Dl,if_pos hk]];have hd:decide (iW t=0)=false:=decide_eq_false hk;simp only[rT,fF,Tl.ds,Vw.ds,zU,zV] at hs ⊢;refine wR ?_;simp only[xq,reduceIte,qE,qA,qL,qD];refine wR ?_;simp only[xq,reduceIte,qE,qA,qL,qD,Tl.ds];refine dF (hs) rfl ?_;simp only[xq,reduceIte,qE,qA,qL,qD];refine cN ?_;refine wR ?_;simp only[xq,reduceIte,qE,qA,qL,qD,hd];refine cL rfl (fun _=>?_) (fun h=>by cases h);refine wR ?_;simp only[xq,reduceIte,qE,qA,qL,qD];refine cT ⟨.inr rfl,?_⟩;simp only[dK,eH,dM,cJ,reduceIte,qE,cK,gQ,xq,reduceIte,qE,qA,qL,qD,dI];exact rH rU (.same rfl)
 obtain⟨hf,hl⟩:=aAD hk;obtain⟨Bl,Il⟩:=aCz hk;obtain⟨hfv,hfl⟩:=aEg Bl Il;have rK:=Hn t (by omega);obtain⟨w,hw⟩:∃ w,w=qG t.base t.steps:=⟨_,rfl⟩;obtain⟨last,aC3⟩:∃ last,last=Ke t.began t.steps:=⟨_,rfl⟩;rw[← aC3] at rK;rw[← hw] at sw hfv;have lN:r=if dO v≠0 then(lC,dO v) else if n<0∨nV<n then(lC,2) else if n<last then(lC,10) else if w=v then(t,0)
   else if 200<(t.steps++[(⟨n,gX w v⟩:Stp)]).length then(Kf { t with steps:=t.steps++[⟨n,gX w v⟩] },0) else({ t with steps:=t.steps++[⟨n,gX w v⟩] },0):=by
  rw[← hr,Dl,if_neg (by simpa using hk),hw,aC3]
 rw[aNM hk] at hs;have hvl:(fQ t.base t.steps).length=t.steps.length+1:=by rw[fQ,za,hfl]
 have Mu:(lZ (fQ t.base t.steps)).length=t.steps.length+1:=by rw[vD,hvl]
 have hvk:(fQ t.base t.steps)[t.steps.length]? = some w:=by rw[← hfl,fQ,aCF,hw,qG]
 have hvg:=Tt hvk;have d0:decide ((0:Int)=0)=true:=by decide
 simp only[rT,fF,Tl.ds,Vw.ds,zU,zV] at hs hv rK ⊢;refine wR ?_;simp only[xq,reduceIte,qE,qA,qL,qD];refine wR ?_;simp only[xq,reduceIte,qE,qA,qL,qD,Tl.ds];refine dF (hs) rfl ?_;simp only[xq,reduceIte,qE,qA,qL,qD];refine cN ?_;refine wR ?_;simp only[xq,reduceIte,qE,qA,qL,qD,d0];refine cL rfl (fun h=>by cases h) (fun _=>cQ ?_);simp only[xq,reduceIte,qE,qA,qL,qD];refine wR ?_;simp only[xq,reduceIte,qE,qA,qL,qD,Vw.ds];refine dF (hv) rfl ?_;simp only[xq,reduceIte,qE,qA,qL,qD];refine cN ?_;refine wR ?_;simp only[xq,reduceIte,qE,qA,qL,qD];refine cL rfl (fun h1=>?_) (fun h1=>cQ ?_)
 ·have h1:dO v≠0:=by simpa using h1
  rw[if_pos h1] at lN;rw[lN];refine wR ?_;simp only[xq,reduceIte,qE,qA,qL,qD];refine cT ⟨.inr rfl,?_⟩;simp only[dK,eH,dM,cJ,reduceIte,qE,cK,gQ,xq,reduceIte,qE,qA,qL,qD,dI];exact rH rU (.same rfl)
 have h1:¬ dO v≠0:=by simpa using h1
 rw[if_neg h1] at lN;simp only[xq,reduceIte,qE,qA,qL,qD];refine cN ?_;refine wR ?_;simp only[xq,reduceIte,qE,qA,qL,qD];refine dF (ht) rfl ?_;simp only[xq,reduceIte,qE,qA,qL,qD];refine cL rfl (fun h2=>?_) (fun h2=>cQ ?_)
 ·rw[if_pos (Kj.1 h2)] at lN;rw[lN];refine wR ?_;simp only[xq,reduceIte,qE,qA,qL,qD];refine cT ⟨.inr rfl,?_⟩;simp only[dK,eH,dM,cJ,reduceIte,qE,cK,gQ,xq,reduceIte,qE,qA,qL,qD,dI];exact rH rU (.same rfl)
 have h2:¬ (n<0∨nV<n):=fun h=>by rw[Kj.2 h] at h2;cases h2
 rw[if_neg h2] at lN;simp only[xq,reduceIte,qE,qA,qL,qD];refine cN ?_;refine wR ?_;simp only[xq,reduceIte,qE,qA,qL,qD,Tl.ds];refine dF (rK) rfl ?_;simp only[xq,reduceIte,qE,qA,qL,qD];refine cL rfl (fun h3=>?_) (fun h3=>cQ ?_)
 ·have h3:n<last:=by simpa using h3
  rw[if_pos h3] at lN;rw[lN];refine wR ?_;simp only[xq,reduceIte,qE,qA,qL,qD];refine cT ⟨.inr rfl,?_⟩;simp only[dK,eH,dM,cJ,reduceIte,qE,cK,gQ,xq,reduceIte,qE,qA,qL,qD,dI];exact rH rU (.same rfl)
 have h3:¬ n<last:=by simpa using h3
 rw[if_neg h3] at lN;have w1:IntKind.i64.wrap (((t.steps.length+1:Nat):Int)-1)=((t.steps.length:Nat):Int):=by rw[cX (by omega)];omega
 simp only[xq,reduceIte,qE,qA,qL,qD];refine wR ?_;simp only[xq,reduceIte,qE,qA,qL,qD,Mu,w1,hvg,Vw.ds,zQ]
 repeat refine aB (by omega) ?_
 have he:=He w v;simp only[fF,Vw.ds,zU,zV] at he;refine dX (s':=⟨dB [(2,.int n),(3,.ptr 0 1 0 0),(4,.ptr 1 1 0 0),(6,.ptr 2 1 0 0),(8,.d (.sl pA (lZ (fQ t.base t.steps)))),(11,.ptr 3 1 0 0)],[rE t,fX v,Py,fX w]⟩) (Co.keep _ (by simp[cJ,cK])) ?_;refine cN ?_;refine wR ?_;simp only[xq,reduceIte,qE,qA,qL,qD,Vw.ds];refine dF (he) rfl ?_;simp only[xq,reduceIte,qE,qA,qL,qD];refine cL rfl (fun h4=>?_) (fun h4=>cQ ?_)
 ·have h4:w=v:=by simpa using h4
  rw[if_pos h4] at lN;rw[lN];refine wR ?_;simp only[xq,reduceIte,qE,qA,qL,qD,Tl.ds];refine cT ⟨.inr rfl,?_⟩;simp only[dK,eH,dM,cJ,reduceIte,qE,cK,gQ,xq,reduceIte,qE,qA,qL,qD,dI];exact rH (.same rfl) (.same rfl)
 have h4:¬ w=v:=by simpa using h4
 rw[if_neg h4] at lN;have Gb:dO v=0:=by simpa using h1
 have hd:=Hd w v sw sv;obtain⟨t2,ht2⟩:∃ t2:Tl,t2={ t with steps:=t.steps++[⟨n,gX w v⟩] }:=⟨_,rfl⟩;have aA4:t2.steps=t.steps++[⟨n,gX w v⟩]:=by rw[ht2]
 have aHC:t2.steps.length=t.steps.length+1:=by rw[aA4];simp
 rw[← ht2] at lN;simp only[fF,Vw.ds,zU,zV] at hd;simp only[xq,reduceIte,qE,qA,qL,qD];refine wR ?_;simp only[xq,reduceIte,qE,qA,qL,qD,Tl.ds];rw[dR];refine⟨by simp only[dL];omega,by simp only[maxLen];omega,?_⟩;let VS:A:=.d (.sl pA (lZ (fQ t.base t.steps)));refine dX (s':=⟨dB [(2,.int n),(3,.ptr 0 1 0 0),(4,.ptr 1 1 0 0),(6,.ptr 2 1 0 0),(8,VS),(11,.ptr 3 1 0 0),(12,.ref 4 t.steps.length 0 t.steps.length true)],[rE t,fX v,Py,fX w,stB t.steps]⟩) (Co.keep _ (by simp[cJ,cK,VS])) ?_;refine eJ (· = ⟨dB [(3,.ptr 0 1 0 0),(6,.ptr 2 1 0 0),(8,VS)],[rE t2,fX v,Py]⟩) (cU ?_) ?_
 ·simp only[xq,reduceIte,qE,qA,qL,qD,Vw.ds,Tl.ds];refine dF (hd) rfl ?_;simp only[xq,reduceIte,qE,qA,qL,qD,Vw.ds,Tl.ds];let x2:A:=.ref 4 (t.steps.length+1) 0 (t.steps.length+1) true;let HX:cM:=[tlX t x2,fX v,Py,fX w,.cells eSt ((fD t.steps).map (fun r=>r.map A.d)++[[.int n,eV (gX w v)]]),.cells eSt [[.int n,eV (gX w v)]]];have h6:HX[4]? = some (stB t2.steps):=by
   have e:(fD t2.steps).map (fun r=>r.map A.d)=(fD t.steps).map (fun r=>r.map A.d)++[[.int n,eV (gX w v)]]:=by rw[aA4,Tj,aJ];rfl
   show some (HB.cells eSt _)=some (HB.cells eSt ((fD t2.steps).map fun r=>r.map A.d));rw[e]
  have Vp:=aEb (k:=3) (by decide) h6;rw[aHC] at Vp;refine⟨dR.symm,by simp only[dL];omega,by simp only[maxLen];omega,_,Co.frzH (s:=⟨_,HX⟩) [(3,.ptr 0 1 0 0),(6,.ptr 2 1 0 0),(8,VS)] 3 [rE t2,fX v,Py] ?_ (zI _) (by simp[HX]) rfl ?_,rfl⟩
  ·intro p hp;simp only[List.mem_cons,List.not_mem_nil,or_false] at hp;rcases hp with rfl | rfl | rfl
   ·exact⟨.same rfl,rfl⟩
   ·exact⟨.same rfl,rfl⟩
   ·exact⟨.same rfl,rfl⟩
  ·intro id hid;rcases(by omega:id=0∨id=1∨id=2) with rfl | rfl | rfl
   ·refine⟨eTl,[tlW t x2],[t2.ds.map .d],rfl,rfl,rfl,fun q r r2 hq hq2=>?_⟩;cases q with
    | succ q=>simp at hq
    | zero =>
     cases hq;cases hq2;refine⟨rfl,fun j y hj=>?_⟩;rw[ht2] at hj;rcases j with _ | _ | _ | _ | _ | _ | _ | _ | _ | j
     ·cases hj;exact⟨.same rfl,rfl⟩
     ·cases hj;exact⟨.same rfl,rfl⟩
     ·cases hj;exact⟨.same rfl,rfl⟩
     ·cases hj;exact⟨.same rfl,rfl⟩
     ·cases hj;exact⟨.same rfl,rfl⟩
     ·cases hj;exact⟨.same rfl,rfl⟩
     ·cases hj;exact⟨.same rfl,rfl⟩
     ·cases hj;exact⟨.same rfl,rfl⟩
     ·have hy:y=aCt t2.steps:=by rw[ht2];cases hj;rfl
      subst hy;exact⟨Vp,rfl⟩
     ·simp[Tl.ds] at hj
   ·exact Pz rfl rfl (rG (rows:=[v.ds]))
   ·exact Pz rfl rfl Ma
 rintro _ rfl;refine eJ (· = ⟨dB [(3,.ptr 0 1 0 0),(6,.ptr 2 1 0 0)],[rE r.1,fX v,Py]⟩) ?_ ?_
 ·simp only[VS];refine wR ?_;simp only[xq,reduceIte,qE,qA,qL,qD,Tl.ds,dR,aHC];refine cL rfl (fun h5=>?_) (fun h5=>cQ ?_)
  ·have h5:200<t2.steps.length:=by have:=of_decide_eq_true h5;omega
   rw[← aA4,if_pos h5] at lN;obtain⟨f',b',u',st'⟩:=t;cases st' with
   | nil=>simp only[aK] at aHC;omega
   | cons s l =>
    simp only at *;obtain⟨_,ha0,_⟩:=Za Il;have hv1:=Tt (l:=fQ u' (s::l)) (i:=1) (v:=(dU u' s.chs).1) (by rw[aCE Il];rfl);have hdr:=Hr f' b' u' (dU u' s.chs).1 s (l++[⟨n,gX w v⟩]) (by omega) (by simp only[za,List.length_append,aK] at hl ⊢; omega);have hdt:Kf t2=⟨f'+1,s.time,(dU u' s.chs).1,l++[⟨n,gX w v⟩]⟩:=by
     rw[ht2,Kf];simp only[List.cons_append,fW,if_pos ha0];rfl
    rw[← hdt,show(⟨f',b',u',s::(l++[⟨n,gX w v⟩])⟩:Tl)=t2 by rw[ht2];rfl] at hdr;rw[lN];simp only[rT,fF,Vw.ds,Tl.ds,zU,zV] at hdr;refine eD (by simp) ?_;simp only[xq,reduceIte,qE,qA,qL,qD,zr,Tl.ds,Mu,hv1,Vw.ds,Int.toNat_one]
    trace_state
    repeat refine aB (by omega) ?_
    refine dF (hdr) rfl ?_;simp only[xq,reduceIte,qE,qA,qL,qD,Tl.ds];exact⟨_,Co.keep _ (by simp[cJ,cK]),rfl⟩
  ·have h5:¬ 200<t2.steps.length:=by have:=of_decide_eq_false h5;omega
   rw[← aA4,if_neg h5] at lN;rw[lN];exact⟨rfl,_,Co.keep _ (by simp[cJ,cK]),rfl⟩
 rintro _ rfl;have hr2:r.2=0:=by
  rw[lN];split<;>rfl
 refine wR ?_;simp only[xq,reduceIte,qE,qA,qL,qD,Tl.ds];refine cT ⟨.inr rfl,?_⟩;simp only[dK,eH,dM,cJ,reduceIte,qE,cK,gQ,xq,reduceIte,qE,qA,qL,qD,dI];rw[tlE,hr2];exact .same rfl
end
section
variable {P:Program}{N:Nat}{Γ:dP}
def aAI(m0:Mom)(rs:List Mom)(t:Tl)(i:Nat):Prop:=t=lC∨∃ ins,t=kF 0 m0 ins∧iF m0 ins∧ins.length≤i∧∀ x∈ins,x∈rs
theorem aEk{m0:Mom}{rs:List Mom}:aAI m0 rs (Lz m0.view m0.time) 0:=by
 rw[Lz];split
 ·exact .inl rfl
 ·rename_i h;have h1:dO m0.view=0:=by
   by_cases hv:dO m0.view=0
   ·exact hv
   ·exact absurd (.inl hv) h
  exact .inr ⟨[],rfl,⟨h1,by have:=fun hh=>h (.inr (.inl hh));omega,by have:=fun hh=>h (.inr (.inr hh));omega⟩,zL _,by simp⟩
theorem aCG{m0 m:Mom}{rs:List Mom}{t:Tl}{i:Nat}(h:aAI m0 rs t i)(hm:m∈rs)(hi:i≤100)(hs:∀ x∈m0::rs,Sm x.view 140) :
  TOk t.base t.steps∧Sm (qG t.base t.steps) 140∧((Dl t m.view m.time).1.first=0∧(Dl t m.view m.time).1.steps.length≤1000)∧((Dl t m.view m.time).2=0→aAI m0 rs (Dl t m.view m.time).1 (i+1)):=by
 rcases h with rfl | ⟨ins,rfl,lG,Vg,Qe⟩
 ·have hz:Sm lA 140:=⟨by simp[lA],by simp[lA]⟩;have hc:iW lC≠0:=by decide
  have ha:Dl lC m.view m.time=(lC,iW lC):=by rw[Dl,if_pos hc]
  rw[ha];exact⟨hz.mono (by omega),hz,⟨rfl,zI _⟩,fun h=>absurd h hc⟩
 ·have hsx:∀ y∈m0::ins,Sm y.view 140:=fun y hy=>by
   rcases List.mem_cons.1 hy with rfl | hy
   ·exact hs _ (zW ..)
   ·exact hs _ (zZ _ (Qe y hy))
  have hlm:mN m0 ins∈m0::ins:=by
   unfold mN;rw[aE];cases hg:ins.getLast? with
   | none=>exact zW ..
   | some y=>exact zZ _ (List.mem_of_getLast? hg)
  have qH:qG (kF 0 m0 ins).base (kF 0 m0 ins).steps=(mN m0 ins).view:=aAB lG;have Qd:=aG3 (m0:=m0) (m:=m) (ins:=ins);have ha:=aG4 (m:=m) lG (by omega);refine⟨Gw lG hsx,by rw[qH];exact hsx _ hlm,?_⟩;rw[ha]
  by_cases he:aLl m0 ins m=0
  ·rw[if_pos he];refine⟨⟨rfl,by show(iQ m0 (Fx m0 ins m)).length≤_;rw[Bd];omega⟩,fun _=>.inr ⟨Fx m0 ins m,rfl,aI1 lG,by omega,fun y hy=>?_⟩⟩;rcases aG8 hy with hy | rfl
   ·exact Qe y hy
   ·exact hm
  ·rw[if_neg he];exact⟨⟨rfl,zI _⟩,fun h=>absurd h he⟩
theorem aCH{f ff fa f1 r1 fs f2 r2 f3 r3:FuncId}(H:FnIs P f N [.t 2] (mU ff fa f1 r1 fs f2 r2 f3 r3))(hN:1≤N)(Hf:aEh Γ P ff)(Ha:FnP Γ P fa [] (.bool true))(H1:Gx Γ P f1)(R1:Gx Γ P r1)(Hs:aAG Γ P fs)
  (H2:Gz Γ P f2) (R2:Gz Γ P r2) (H3:Bf Γ P f3) (R3:Bf Γ P r3) (l:List Mom):FnP Γ P f [aCC l] (.bool true):=by
 refine .of_W H (by simpa using hN) ?_;have hf:=Hf l;unfold mU;refine wR ?_;simp only[xq,reduceIte,qE,qA,qL,qD];obtain⟨d,hd⟩:∃ d,d=decide (l.length=0):=⟨_,rfl⟩;obtain⟨g,hg⟩:∃ g,g=(d || !fineM l):=⟨_,rfl⟩;have hdl:decide (((l.length:Nat):Int)=0)=d:=by rw[hd,Bool.eq_iff_iff];simp
 refine cN ?_;refine eJ (· = ⟨dB [(0,aCC l),(18,.bool g)],[]⟩) (cU ?_) ?_
 ·simp only[xq,reduceIte,qE,qA,qL,qD,jT,hdl];cases d
  ·simp only[xq,reduceIte,qE,qA,qL,qD,cV,zE];refine dF (hf) rfl ?_;simp only[xq,reduceIte,qE,qA,qL,qD];exact⟨_,Co.keep _ (by simp[cJ,cK,hg]),rfl⟩
  ·simp only[xq,reduceIte,qE,qA,qL,qD,cV,zE];exact⟨_,Co.keep _ (by simp[cJ,cK,hg]),rfl⟩
 rintro _ rfl;refine cL rfl (fun hc=>?_) (fun hc=>cQ ?_)
 ·refine wR ?_;simp only[xq,reduceIte,qE,qA,qL,qD];refine dF (Ha) rfl ?_;simp only[xq,reduceIte,qE,qA,qL,qD];refine cT (.tmp ?_ rfl);simp only[cJ,reduceIte]
 rw[hc] at hg;obtain⟨g1,g2⟩:=aG.1 hg.symm;obtain⟨hl8,hsm⟩:=aJb (l:=l) (by simpa using g2);cases l with
 | nil=>rw[hd] at g1;simp at g1
 | cons m0 rs =>
  have hg0:(rF (m0::rs)).getD 0 []=m0.ds:=rfl;have sm0:Sm m0.view 50000:=(hsm m0 (zW ..)).mono (by omega);have h1:=H1 m0.view m0.time sm0;have q1:=R1 m0.view m0.time sm0;have aQR:=aEk (m0:=m0) (rs:=rs);simp only[za] at hl8;generalize Lz m0.view m0.time=t0 at *;have hss:=Hs t0 t0;rw[decide_eq_true rfl] at hss;simp only[fF,Vw.ds,rT,Tl.ds,zU,zV] at h1 q1 hss;simp only[xq,reduceIte,qE,qA,qL,qD];refine cN (eD (by simp) ?_);simp only[xq,reduceIte,qE,qA,qL,qD,jT,hg0,Mom.ds,aH]
  repeat refine aB (by omega) ?_
  refine dF (h1) rfl ?_;simp only[xq,reduceIte,qE,qA,qL,qD,jT,hg0,Mom.ds,aH]
  repeat refine aB (by omega) ?_
  refine dF (q1) rfl ?_;simp only[xq,reduceIte,qE,qA,qL,qD,jT,hg0,Mom.ds,aH];refine cN (cN ?_);refine cU ?_;simp only[xq,reduceIte,qE,qA,qL,qD,Tl.ds];refine dF (hss) rfl ?_;simp only[xq,reduceIte,qE,qA,qL,qD];refine cL rfl (fun h=>by cases h) (fun _=>cQ ?_);have vY:aI (((rs.length+1:Nat):Int)-1).toNat (List.drop (Int.toNat 1) (rF (m0::rs)))=rF rs:=by
   show aI _ (rF rs)=_;exact aA (by rw[jT];omega)
  simp only[xq,reduceIte,qE,qA,qL,qD];refine cN (cN ?_);refine cU ?_;simp only[xq,reduceIte,qE,qA,qL,qD,jT,vY]
  repeat refine aB (by omega) ?_
  refine cS ?_;let S:Nat→cM→St:=fun i hp=>⟨dB [(3,.ptr 0 1 0 0),(4,.ptr 1 1 0 0),(43,aCC rs),(44,.int rs.length),(45,.int i)],hp⟩;refine dX (s':=S 0 [rE t0,rE t0]) (Co.keep _ (by simp[cJ,cK])) ?_;refine dN (fun m s=>∃ i t hp,i≤rs.length∧m=rs.length-i∧s=S i hp∧aAI m0 rs t i∧hp[0]? = some (rE t)∧hp[1]? = some (rE t)) ⟨0,t0,_,zI _,rfl,rfl,aQR,rfl,rfl⟩ ?_;rintro mm s ⟨i,t,hp,hi,rfl,rfl,hI,hp0,hp1⟩;have La:2≤hp.length:=(zA.1 hp1).1;have g0:∀ tt:cM,(hp++tt)[0]? = some (rE t):=fun tt=>fB hp0;have gg1:∀ tt:cM,(hp++tt)[1]? = some (rE t):=fun tt=>fB hp1;simp only[S];refine wR ?_;simp only[xq,reduceIte,qE,qA,qL,qD];refine cN (cL rfl (fun hc=>cQ ?_) (fun hc=>dJ ?_))
  ·have cY:i<rs.length:=by simpa using hc
   have w1:IntKind.i64.wrap ((i:Int)+1)=((i+1:Nat):Int):=by rw[cX (by omega)];omega
   obtain⟨m,hm⟩:∃ m,m=rs[i]:=⟨_,rfl⟩;have hmr:m∈rs:=by rw[hm];exact List.getElem_mem cY
   have hmg:(rF rs).getD i []=m.ds:=by rw[Tk cY,← hm]
   obtain⟨lG,qH,⟨hb1,hb2⟩,aJ7⟩:=aCG hI hmr (by omega) hsm;have smm:=hsm m (zZ _ hmr);have h2:=H2 t m.view m.time lG smm qH;have q2:=R2 t m.view m.time lG smm qH;obtain⟨x,e,hxe⟩:∃ x e,Dl t m.view m.time=(x,e):=⟨_,_,rfl⟩;rw[hxe] at h2 q2 hb1 hb2 aJ7;simp only at hb1 hb2 aJ7;have h3:=H3 x (by rw[hb1];omega) (by omega);have q3:=R3 x (by rw[hb1];omega) (by omega);have hs2:=Hs x x;rw[decide_eq_true rfl] at hs2;have dd:∀ y:Int,decide (y=y)=true:=fun y=>decide_eq_true rfl;generalize aFe x=lx at *;simp only[tlE,fF,Vw.ds,rT,Tl.ds,zU,zV] at h2 q2 h3 q3 hs2;simp only[xq,reduceIte,qE,qA,qL,qD];refine cN (cS ?_);refine wR ?_;simp only[xq,reduceIte,qE,qA,qL,qD,jT,hmg,Mom.ds,zQ,dA,eE]
   repeat refine aB (by omega) ?_
   refine wR ?_;simp only[xq,reduceIte,qE,qA,qL,qD,g0,dA,eT,fC,eE,iV,Mom.ds,Tl.ds,zS];refine dF (h2) rfl ?_;simp only[xq,reduceIte,qE,qA,qL,qD,dA,eT,fC,eE,iV,Mom.ds,Tl.ds,zS];refine wR ?_;simp only[xq,reduceIte,qE,qA,qL,qD,gg1,dA,eT,fC,eE,iV,Mom.ds,Tl.ds,zS];refine dF (q2) rfl ?_;simp only[xq,reduceIte,qE,qA,qL,qD,dA,eT,fC,eE,iV,Mom.ds,Tl.ds,zS];refine dX (s':=⟨dB [(3,.ptr 0 1 0 0),(4,.ptr 1 1 0 0),(7,.ptr (hp.length+1) 1 0 0),(8,.int e),(9,.ptr (hp.length+2) 1 0 0),(10,.int e),(43,aCC rs),(44,.int rs.length),(45,.int i)],hp++[moB m,rE x,rE x]⟩) (Co.keep _ (by simp[cJ,cK])) ?_;refine cN ?_;refine eJ (· = ⟨dB [(3,.ptr 0 1 0 0),(4,.ptr 1 1 0 0),(7,.ptr (hp.length+1) 1 0 0),(8,.int e),(9,.ptr (hp.length+2) 1 0 0),(43,aCC rs),(44,.int rs.length),(45,.int i),(82,.bool false)],hp++[moB m,rE x,rE x]⟩) (eD (by simp) ?_) ?_
   ·refine fS 5 fun K1 hK1=>?_;simp only[xq,reduceIte,qE,qA,qL,qD,zr,aL,dA,eT,fC,Tl.ds];refine dF (hs2) rfl ?_;simp only[xq,reduceIte,qE,qA,qL,qD];refine hK1 _ ?_;clear hK1 K1;refine fS 5 fun K1 hK1=>?_;simp only[xq,reduceIte,qE,qA,qL,qD,dd];refine hK1 _ ?_;clear hK1 K1;simp only[xq,reduceIte,qE,qA,qL,qD,dA,eT,fC,Tl.ds];refine dF (h3) rfl ?_;simp only[xq,reduceIte,qE,qA,qL,qD,dA,eT,fC,Tl.ds];refine dF (q3) rfl ?_;simp only[xq,reduceIte,qE,qA,qL,qD,dd];exact⟨_,Co.keep [(3,.ptr 0 1 0 0),(4,.ptr 1 1 0 0),(7,.ptr (hp.length+1) 1 0 0),(8,.int e),(9,.ptr (hp.length+2) 1 0 0),(43,aCC rs),(44,.int rs.length),(45,.int i),(82,.bool false)] (by simp[cJ,cK]),rfl⟩
   rintro _ rfl;refine cL rfl (fun h=>by cases h) (fun _=>cQ ?_);simp only[xq,reduceIte,qE,qA,qL,qD];refine wR ?_;simp only[xq,reduceIte,qE,qA,qL,qD];refine cL rfl (fun h5=>?_) (fun h5=>cQ ?_)
   ·have h5:e=0:=by simpa using h5
    have e0:∀ (tt:cM) X,(hp++tt).set 0 X=hp.set 0 X++tt:=fun tt X=>zu _ _ (by omega);have e1:∀ (tt:cM) X Y,(hp.set 0 X++tt).set 1 Y=(hp.set 0 X).set 1 Y++tt:=fun tt X Y=>zu _ _ (by simp;omega);have e2:∀ (tt:cM) X,(hp.set 0 X++tt)[1]? = some (rE t):=fun tt X=>by
     rw[zF (by simp;omega),zM (by decide)];exact hp1
    refine Lg (hp.length+2) 0 (by omega) (by simp) (by simp) rfl (by simp[cJ,cK,Aa,A.touch]) ?_;simp only[xq,reduceIte,qE,qA,qL,qD,zr,aL,dA,eT,fC,g0,e0,e1,e2,Tl.ds];refine cU ?_;simp only[xq,reduceIte,qE,qA,qL,qD,w1];refine⟨rs.length-(i+1),S (i+1) (((hp.set 0 (rE x)).set 1 (rE x))++[moB m,rE x,rE x]),by omega,Co.keep _ (by simp[cJ,cK]),i+1,x,_,cY,rfl,rfl,aJ7 h5,?_,?_⟩
    ·rw[zF (by simp;omega),zM (by decide),zN (by omega)]
    ·rw[zF (by simp;omega),zN (by simp;omega)]
   ·simp only[xq,reduceIte,qE,qA,qL,qD];refine cU ?_;simp only[xq,reduceIte,qE,qA,qL,qD,w1];refine⟨rs.length-(i+1),S (i+1) _,by omega,Co.keep _ (by simp[cJ,cK]),i+1,t,_,cY,rfl,rfl,?_,g0 _,gg1 _⟩;rcases hI with h | ⟨ins,h1,h2,h3,h4⟩
    ·exact .inl h
    ·exact .inr ⟨ins,h1,h2,by omega,h4⟩
  ·simp only[xq,reduceIte,qE,qA,qL,qD];refine wR ?_;simp only[xq,reduceIte,qE,qA,qL,qD];refine dF (Ha) rfl ?_;simp only[xq,reduceIte,qE,qA,qL,qD];refine cT (.tmp ?_ rfl);simp only[cJ,reduceIte]
end
end Go.Proofs.YtlllnjhgjijnkaaGreatDoor.Nx
