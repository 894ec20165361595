import Derived.Test.YtlllnjhgjijnkaaGreatDoorNxI0
import Derived.Test.YtlllnjhgjijnkaaGreatDoorNxE19
set_option linter.all false
open List renaming getElem?_eq_some_iff → zA, getElem?_eq_getElem → zB, getD_eq_getElem?_getD → zC, getElem?_append_left → zF, getElem?_append_right → zG, getElem?_map → zK, getElem?_set_ne → zM, getElem?_set_self → zN, append_nil → zP, append_assoc → zS, map_cons → zU, map_nil → zV, mem_cons_self → zW, mem_cons_of_mem → zZ, length_append → zb, mem_cons → zp, replicate_zero → zr, set_append_left → zu, eq_nil_of_length_eq_zero → zx
open Bool renaming true_eq_false → zE, and_eq_true → zf
open Nat renaming zero_le → zI, le_refl → zL
open Int renaming toNat_natCast → zQ
open Option renaming map_eq_some_iff → zT
open Nat renaming reduceEqDiff → qE, reduceAdd → qA, reduceLT → qL, reduceLeDiff → qD
set_option maxHeartbeats 2000000
open List renaming not_mem_nil → aA, mem_singleton → aB, take_add_one → aC, length_cons → aE, getElem_mem → aF, length_nil → aG
open Nat renaming lt_or_ge → aD
open And renaming intro → aH
namespace Go.Proofs.YtlllnjhgjijnkaaGreatDoor.Nx
open Go
section
variable {P:Program}{N:Nat}{Γ:dP}
def aAw:Cg:=⟨0,0,0,0,0,[]⟩
def aCi:Nat→Nat→A
 | 0,_=>.nil
 | k+1,j=>.ref j (k+1) 0 (k+1) true
abbrev vB(k j:Nat):HB:=.cells ⟨1,24⟩ [[aCi k j]]
def aPm(gs:List Cg)(k:Nat)(L:List (Nat × HB)):Prop :=
 (k=0∧∃ j,L=[(0,vB 0 j)])∨(0<k∧∃ j,j≠0∧L=[(0,vB k j),(j,fT (gs.take k))])
theorem aAx{gs:List Cg}{k:Nat}(hk:k<gs.length):((eP (gs.take k)).map fun r=>r.map A.d)++[gs[k].ds.map .d]=(eP (gs.take (k+1))).map fun r=>r.map A.d:=by
 rw[aC,zB hk];simp only[eP,Option.toList_some,List.map_append,zU,zV]
theorem We{f fG:FuncId}{caps:List A}(H:FnIs P f N [.t 4] gS)(hN:2≤N)(gs:List Cg)(hG:aBw Γ P fG caps (gs.map fun g=>[pG g]))(h0:A.underL 0 caps=true)(eG:gs.length * 64≤dL) :
  FnP Γ P f [.nil,.fn fG caps] (.d (.sl Bp (eP gs))):=by
 refine .of_W H (by simpa using hN) ?_;unfold gS;refine wR ?_;simp only[xq,reduceIte,qE,qA,qL,qD];refine cN (wR ?_);simp only[xq,reduceIte,qE,qA,qL,qD];let sl0:Nat→A:=upd (upd (upd (dB [(0,.nil),(1,.fn fG caps)]) 2 (.ptr 0 1 0 0)) 4 .nil) 6 (.fn fG caps);have Vj:gs.length≤dL:=Nat.le_trans (Nat.le_mul_of_pos_right _ (by decide)) eG;refine cS (Jd (Γ:=Γ.ctx) (xs:=gs.map fun g=>[pG g]) (f:=fG) (caps:=caps) rfl hG (aPm gs) (fun _ _=>False) [(0,vB 0 0)] (.inl ⟨rfl,0,rfl⟩) ?_
  (fun k n=>upd (upd sl0 7 (pG (gs.getD k aAw))) 5 (.ptr n 1 0 0)) (fun k=>[.cells Bp [(gs.getD k aAw).ds.map .d]]) ?_ ?_ ?_ ?_ ?_)
 ·intro p hp;simp only[zp,aA,or_false] at hp;subst hp;rfl
 ·intro k xa hk;simp only[zK,zT] at hk;obtain⟨g,_,rfl⟩:=hk;rfl
 ·-- the variable
  intro k xa h rl hk cY;simp only[zK,zT] at hk;obtain⟨g,hg,rfl⟩:=hk;have hgd:gs.getD k aAw=g:=by rw[zC,hg];rfl
  refine cU ?_;simp only[xq,reduceIte,qE,qA,qL,qD,sJ,dA,eE,pG,Cg.ds,hgd];rfl
 ·-- a round
  intro k xa L h hk hI hL cY;simp only[zK,zT] at hk;obtain⟨g,hg,rfl⟩:=hk;have hgd:gs.getD k aAw=g:=by rw[zC,hg];rfl
  have hkl:k<gs.length:=(zA.1 hg).1;have hgk:gs[k]=g:=by rw[zB hkl] at hg;exact Option.some.inj hg
  have sD:0<h.length:=by simp at cY;omega
  have vG:gs.take 0++[g]=[g]:=rfl;rw[hgd];rcases hI with⟨rfl,j,rfl⟩ | ⟨hk0,j,hj,rfl⟩
  ·-- the first
   have Qc:h[0]? = some (vB 0 j):=hL _ (zW ..);have e0:∀ t:cM,(h++t)[0]? = some (vB 0 j):=fun t=>by rw[zF sD];exact Qc
   have e1:∀ (t:cM) X,(h++t).set 0 X=h.set 0 X++t:=fun t X=>zu _ _ sD;refine⟨.normal,[(0,vB 1 (h.length+2)),(h.length+2,fT [g])],h.set 0 (vB 1 (h.length+2))++[.cells Bp [g.ds.map .d],.cells Bp [g.ds.map .d],fT [g]],?_,fun rl=>?_,.inl ⟨rfl,.inr ⟨Nat.succ_pos _,h.length+2,by omega,?_⟩⟩⟩
   ·refine⟨fun p hp=>?_,by simp,fun q hq hn=>?_,fun q hq=>?_⟩
    ·simp only[zp,aA,or_false] at hp;rcases hp with rfl | rfl
     ·rw[zF (by simpa using sD),zN sD]
     ·rw[zG (by simp)];simp
    ·simp only[mP,zU,zV,zp,aA,or_false] at hn;simp only[zb,aE,aG] at hq;rcases aD q h.length with h1 | h1
     ·rw[zF (by simpa using h1),zM (Ne.symm hn),zF h1]
     ·have:q=h.length:=by omega
      subst this;rw[zG (by simp),zG (zL _)];simp
    ·simp only[mP,zU,zV,zp,aA,or_false] at hq ⊢;rcases hq with rfl | rfl
     ·exact .inl rfl
     ·exact .inr (by simp)
   ·refine cS (cU ?_);simp only[xq,reduceIte,qE,qA,qL,qD,e0,e1,aCi,sl0,zS,dA,eT,eE,Cg.ds,Nat.reduceMul];rw[if_neg (by simp)];exact⟨by decide,by decide,rfl⟩
   ·rw[← hgk,aC,zB hkl];rfl
  ·-- the others
   obtain⟨k,rfl⟩:∃ k',k=k'+1:=⟨k-1,by omega⟩;have Qc:h[0]? = some (vB (k+1) j):=hL _ (zW ..);have hbj:h[j]? = some (fT (gs.take (k+1))):=hL _ (zZ _ (zW ..));have qO:j<h.length:=(zA.1 hbj).1;have e0:∀ t:cM,(h++t)[0]? = some (vB (k+1) j):=fun t=>by rw[zF sD];exact Qc
   have ej:∀ t:cM,(h++t)[j]? = some (fT (gs.take (k+1))):=fun t=>by rw[zF qO];exact hbj
   have e1:∀ (t:cM) X,(h++t).set j X=h.set j X++t:=fun t X=>zu _ _ qO;have e2:∀ (t:cM) X,(h.set j X++t)[0]? = some (vB (k+1) j):=fun t X=>by
    rw[zF (by simpa using sD),zM hj];exact Qc
   have e3:∀ (t:cM) X Y,(h.set j X++t).set 0 Y=(h.set j X).set 0 Y++t:=fun t X Y=>zu _ _ (by simpa using sD);have Mu:(eP (gs.take (k+1))).length=k+1:=by simp[eP];omega
   have hsn:=aAx hkl;rw[hgk] at hsn;refine⟨.normal,[(0,vB (k+1+1) j),(j,fT (gs.take (k+1+1)))],(h.set j (fT (gs.take (k+1+1)))).set 0 (vB (k+1+1) j)++[.cells Bp [g.ds.map .d],.cells Bp [g.ds.map .d]],?_,fun rl=>?_,.inl ⟨rfl,.inr ⟨Nat.succ_pos _,j,hj,rfl⟩⟩⟩
   ·refine⟨fun p hp=>?_,by simp,fun q hq hn=>?_,fun q hq=>?_⟩
    ·simp only[zp,aA,or_false] at hp;rcases hp with rfl | rfl
     ·rw[zF (by simpa using sD),zN (by simpa using sD)]
     ·rw[zF (by simpa using qO),zM (Ne.symm hj),zN qO]
    ·simp only[mP,zU,zV,zp,aA,or_false,not_or] at hn;simp only[zb,aE,aG] at hq;rcases aD q h.length with h1 | h1
     ·rw[zF (by simpa using h1),zM (Ne.symm hn.1),zM (Ne.symm hn.2),zF h1]
     ·have:q=h.length:=by omega
      subst this;rw[zG (by simp),zG (zL _)];simp
    ·simp only[mP,zU,zV,zp,aA,or_false] at hq ⊢;exact .inl hq
   ·refine cS (cU ?_);simp only[xq,reduceIte,qE,qA,qL,qD,e0,ej,e1,e2,e3,aCi,sl0,zS,dA,eT,eE,Cg.ds,Mu];refine⟨by omega,by simp only[maxLen,dL] at *; omega,?_⟩;simp only[Cg.ds,zU,zV] at hsn;rw[hsn];rfl
 ·-- behind the loop
  intro L' h' T hI;simp only[xq,reduceIte,qE,qA,qL,qD];rw[List.length_map] at hI;rcases hI with⟨hk,j,rfl⟩ | ⟨hk,j,hj,rfl⟩
  ·have Qc:h'[0]? = some (vB 0 j):=T.has _ (zW ..);have hgs:gs=[]:=zx hk;subst hgs;refine wR ?_;simp only[xq,reduceIte,qE,qA,qL,qD,Qc,aCi,sl0];refine cT (.frz ?_);simp only[xq,reduceIte,qE,qA,qL,qD];exact .d (.nil _)
  ·obtain⟨k,Io⟩:∃ k',gs.length=k'+1:=⟨gs.length-1,by omega⟩;have Qc:h'[0]? = some (vB gs.length j):=T.has _ (zW ..);have hbj:h'[j]? = some (fT (gs.take gs.length)):=T.has _ (zZ _ (zW ..));rw[List.take_length] at hbj;have aQG:h'[0]? = some (vB (k+1) j):=by rw[← Io];exact Qc
   refine wR ?_;simp only[xq,reduceIte,qE,qA,qL,qD,aQG,aCi,sl0];refine cT (.frz ?_);simp only[xq,reduceIte,qE,qA,qL,qD];have:=iJ (full:=true) hbj;have hl:(eP gs).length=k+1:=by simp[eP,Io]
   rw[hl] at this;exact this
 ·intro e0 L' h' T hE;exact hE.elim
theorem aCj{f fA fG:FuncId}{NA:Nat}{caps:List A}(H:FnIs P f N [.t 2] (jF fA))(hN:1≤N)(HA:FnIs P fA NA [.t 4] gS)(hNA:2≤NA)(gs:List Cg)(hG:aBw Γ P fG caps (gs.map fun g=>[pG g]))
  (h0:A.underL 0 caps=true) (eG:gs.length * 64≤dL):FnP Γ P f [.fn fG caps] (.d (.sl Bp (eP gs))):=by
 refine .of_W H (by simpa using hN) ?_;unfold jF;refine wR ?_;simp only[xq,reduceIte,qE,qA,qL,qD];refine wR ?_;simp only[xq,reduceIte,qE,qA,qL,qD];refine dF (We HA hNA gs hG h0 eG) (by simp[A.underL,A.under,h0]) ?_;simp only[xq,reduceIte,qE,qA,qL,qD];refine cT (.frz ?_);simp only[xq,reduceIte,qE,qA,qL,qD];exact .same rfl
end
section
variable {P:Program}{N:Nat}{Γ:dP}
theorem kX{k:Nat}{h:cM}{id:Nat}{e:Elt}{ds:List D}(hk:k≤id)(hv:h[id]? = some (.cells e [ds.map .d])):FrzA k h (.ptr id 1 0 0) (.iptr ds):=by
 refine FrzA.iptr (e:=e) (rows:=[ds.map .d]) (i:=0) (off:=0) hk hv rfl fun j d hj=>?_;have cY:=(zA.1 hj).1;refine⟨by simpa using cY,?_⟩;rw[Nat.zero_add,zC,zK,hj];exact .d d
theorem aLe{f f1:FuncId}(H:FnIs P f N [.t 4] (sP f1))(hN:2≤N)(x b:Vw):FnP Γ P f [fF x,fF b] (.fn f1 [.iptr b.ds,.iptr x.ds]):=by
 refine .of_W H (by simpa using hN) ?_;unfold sP;simp only[fF,Vw.ds,zU,zV];refine wR ?_;simp only[xq,reduceIte,qE,qA,qL,qD];refine wR ?_;simp only[xq,reduceIte,qE,qA,qL,qD];refine cT (.frz ?_);simp only[xq,reduceIte,qE,qA,qL,qD];refine .fn rfl fun j y hj=>?_;rcases j with _ | _ | j
 ·cases hj;exact kX (zI _) (e:=pA) (ds:=b.ds) rfl
 ·cases hj;exact kX (zI _) (e:=pA) (ds:=x.ds) rfl
 ·simp at hj
def Dh(x b:Vw):List (List A):=(iE x b).map fun c=>[pG c]
theorem Fs{x b:Vw}:∀ {i n:Nat},i≤n→∃ t,dY x b n=dY x b i++t
 | i,0,h=>⟨[],by rw[Nat.le_zero.1 h];simp⟩
 | i,n+1,h=>by
  rcases aD i (n+1) with h1 | h1
  ·obtain⟨t,ht⟩:=Fs (x:=x) (b:=b) (show i≤n by omega);exact⟨t++eQ n (x.rows.getD n []) (b.rows.getD n []),by rw[dY,ht,zS]⟩
  ·have:i=n+1:=by omega
   subst this;exact⟨[],by simp⟩
theorem aD1{x b:Vw}{i j:Nat}{nw:List Cg}(hi:i<b.rows.length)(hn:nw=eQ i (x.rows.getD i []) (b.rows.getD i []))(hj:j<nw.length):(Dh x b)[(dY x b i).length+j]? = some [pG nw[j]]:=by
 obtain⟨t,ht⟩:=Fs (x:=x) (b:=b) (show i+1≤b.rows.length from hi);rw[dY,← hn] at ht;rw[Dh,zK,iE,ht,zS,zS,zG (Nat.le_add_right _ _),Nat.add_sub_cancel_left,zF hj,zB hj];rfl
theorem aD2{x b:Vw}{c:Cg}(hc:iZ x b=[c]):(Dh x b)[(dY x b b.rows.length).length]? = some [pG c]:=by
 rw[Dh,zK,iE,hc,zG (zL _),Nat.sub_self];rfl
theorem Sy{x b:Vw}:(Dh x b).length=(dY x b b.rows.length).length+(iZ x b).length:=by simp[Dh,iE]
theorem aGG{f fs:FuncId}(H:FnIs P f N [] (lP fs))(hN:3≤N)(x b:Vw)(eG:b.rows.length≤x.rows.length)(Qd:b.rows.length≤1000)(hsx:Sm x 50000)(hsb:Sm b 50000)
  (Hs:∀ (row:Int) (a b:List Gl),a.length≤50000→b.length≤50000→FnP Γ P fs [.int row,.d (.sl dW (cP a)),.d (.sl dW (cP b))] (eV (eQ row a b))) :
  aBw Γ P f [.iptr b.ds,.iptr x.ds] (Dh x b):=by
 refine⟨H.enters,fun env bb id I E rounds L h hI hL hbb=>?_⟩;refine .of_WT H (by simpa using hN) hbb (xP ?_);unfold lP;refine cN ?_;refine wR ?_;simp only[xq,reduceIte,qE,qA,qL,qD,Vw.ds,cW];refine cS ?_;let S:Nat→cM→St:=fun i h=>⟨dB [(0,.yld id),(1,.iptr b.ds),(2,.iptr x.ds),(10,.int b.rows.length),(11,.int i)],h⟩;refine dX (s':=S 0 h) (Co.keep _ (by simp[cJ,cK,Vw.ds])) ?_;refine dN (fun m s=>∃ i L' h',i≤b.rows.length∧m=b.rows.length-i∧s=S i h'∧Turn L L' h h'∧I (dY x b i).length L') ⟨0,L,h,zI _,rfl,rfl,.refl hL,hI⟩ ?_;rintro m s ⟨i,L',h',hi,rfl,rfl,T,hI'⟩;simp only[S];refine wR ?_;simp only[xq,reduceIte,qE,qA,qL,qD];refine cN (cL rfl (fun hc=>cQ ?_) (fun hc=>dJ ?_))
 ·have cY:i<b.rows.length:=by simpa using hc
  have aEG:i<x.rows.length:=by omega
  have gx:x.rows.getD i []=x.rows[i]:=by rw[zC,zB aEG];rfl
  have gb:b.rows.getD i []=b.rows[i]:=by rw[zC,zB cY];rfl
  have bx:=hsx.row _ (aF aEG);have bw:=hsb.row _ (aF cY);have hS:=Hs i x.rows[i] b.rows[i] bx bw;obtain⟨nw,hnw⟩:∃ nw,nw=eQ i x.rows[i] b.rows[i]:=⟨_,rfl⟩;have hnl:nw.length≤200001:=by rw[hnw];exact Df bx bw
  rw[← hnw] at hS;have aPQ:nw=eQ i (x.rows.getD i []) (b.rows.getD i []):=by rw[gx,gb,hnw]
  have hto:dY x b (i+1)=dY x b i++nw:=by rw[dY,← aPQ]
  simp only[xq,reduceIte,qE,qA,qL,qD];refine cN (cS ?_);refine wR ?_;simp only[xq,reduceIte,qE,qA,qL,qD];refine cN (eD (by simp) ?_);simp only[xq,reduceIte,qE,qA,qL,qD,zr,zP,Vw.ds,cW,eC aEG,eC cY,zQ];refine⟨by omega,by omega,by omega,by omega,?_⟩;refine dF (hS) rfl ?_;simp only[xq,reduceIte,qE,qA,qL,qD,dD];let S2:Nat→cM→St:=fun j h=>⟨dB [(0,.yld id),(1,.iptr b.ds),(2,.iptr x.ds),(10,.int b.rows.length),(11,.int i),(25,eV nw),(26,.int nw.length),(27,.int j)],h⟩;refine cS ?_;refine dX (s':=S2 0 h') (Co.keep _ (by simp[cJ,cK,Vw.ds])) ?_;refine dN (fun m s=>∃ j L' h',j≤nw.length∧m=nw.length-j∧s=S2 j h'∧Turn L L' h h'∧I ((dY x b i).length+j) L') ⟨0,L',h',zI _,rfl,rfl,T,hI'⟩ ?_;clear T hI' L' h';rintro m s ⟨j,L',h',hj,rfl,rfl,T,hI'⟩;simp only[S2];refine wR ?_;simp only[xq,reduceIte,qE,qA,qL,qD];refine cN (cL rfl (fun hc=>cQ ?_) (fun hc=>dJ ?_))
  ·have qO:j<nw.length:=by simpa using hc
   obtain⟨c,Kt⟩:∃ c,c=nw[j]:=⟨_,rfl⟩;have w1:IntKind.i64.wrap ((j:Int)+1)=((j+1:Nat):Int):=by rw[cX (by omega)];omega
   have hx:=aD1 cY aPQ qO;have Cc:(eP nw).getD j []=c.ds:=by rw[jP qO,← Kt]
   rw[← Kt] at hx;have Ta:=Turn.app T.has [iA c];have Dy:bb≤(h'++[iA c]).length:=by have:=T.len;simp;omega
   simp only[xq,reduceIte,qE,qA,qL,qD];refine cN (cS ?_);refine wR ?_;simp only[xq,reduceIte,qE,qA,qL,qD,dD,Cc,Cg.ds,zQ,dA,eE];refine⟨by omega,by omega,?_⟩;rcases rounds _ _ L' _ hx hI' Ta.has Dy with⟨L2,h2,hR,T2,hI2⟩ | ⟨L2,h2,hR,T2,hE2⟩
   ·simp only[pG,Cg.ds,zU,zV] at hR;refine wR ?_;simp only[xq,reduceIte,qE,qA,qL,qD,dA,Cg.ds];refine wL hR ?_;simp only[xq,reduceIte,qE,qA,qL,qD];refine cL rfl (fun hd=>by cases hd) (fun _=>cQ ?_);simp only[xq,reduceIte,qE,qA,qL,qD];refine cU ?_;simp only[xq,reduceIte,qE,qA,qL,qD,w1];exact⟨nw.length-(j+1),S2 (j+1) h2,by omega,Co.keep _ (by simp[cJ,cK,Vw.ds]),j+1,L2,h2,qO,rfl,rfl,T.trans (Ta.trans T2),hI2⟩
   ·simp only[pG,Cg.ds,zU,zV] at hR;refine wR ?_;simp only[xq,reduceIte,qE,qA,qL,qD,dA,Cg.ds];refine wL hR ?_;simp only[xq,reduceIte,qE,qA,qL,qD];refine cL rfl (fun _=>cT ?_) (fun hd=>by cases hd);simp only[xq,reduceIte,qE,qA,qL,qD];refine⟨.inr trivial,?_⟩;simp only[dK];exact⟨L2,T.trans (Ta.trans T2),.inr hE2⟩
  ·have gZ:j=nw.length:=by simp at hc;omega
   subst gZ;have w1:IntKind.i64.wrap ((i:Int)+1)=((i+1:Nat):Int):=by rw[cX (by omega)];omega
   simp only[xq,reduceIte,qE,qA,qL,qD];refine cU ?_;simp only[xq,reduceIte,qE,qA,qL,qD,w1];exact⟨b.rows.length-(i+1),S (i+1) h',by omega,Co.keep _ (by simp[cJ,cK,Vw.ds]),i+1,L',h',cY,rfl,rfl,T,by rw[hto,zb];exact hI'⟩
 ·have gZ:i=b.rows.length:=by simp at hc;omega
  subst gZ;simp only[xq,reduceIte,qE,qA,qL,qD];refine cN ?_;refine eJ (· = ⟨dB [(0,.yld id),(1,.iptr b.ds),(55,.bool ((decide (x.row=b.row)&&decide (x.col=b.col))&&(x.vis == b.vis)))],h'⟩) (cU ?_) ?_
  ·cases e1:decide (x.row=b.row)
   ·simp only[xq,reduceIte,qE,qA,qL,qD,Vw.ds,e1,cV,zE];exact⟨_,Co.keep _ (by simp[cJ,cK]),rfl⟩
   ·cases e2:decide (x.col=b.col)
    ·simp only[xq,reduceIte,qE,qA,qL,qD,Vw.ds,e1,e2,cV,zE];exact⟨_,Co.keep _ (by simp[cJ,cK]),rfl⟩
    ·simp only[xq,reduceIte,qE,qA,qL,qD,Vw.ds,e1,e2,cV,zE];exact⟨_,Co.keep _ (by simp[cJ,cK]),rfl⟩
  rintro _ rfl;refine cL rfl (fun hd=>?_) (fun hd=>cQ ?_)
  ·have hcv:iZ x b=[]:=by
    rw[iZ,if_pos];simp only[zf,decide_eq_true_eq,beq_iff_eq] at hd;exact⟨hd.1.1,hd.1.2,hd.2⟩
   refine cT ?_;simp only[xq,reduceIte,qE,qA,qL,qD];refine⟨.inr trivial,?_⟩;simp only[dK];refine⟨L',T,.inl ?_⟩;rw[Sy,hcv];exact hI'
  ·let cc:Bool→Cg:=fun v=>⟨4,b.row,b.col,if v then 1 else 0,0,[]⟩;have hcv:iZ x b=[cc b.vis]:=by
    rw[iZ,if_neg];rintro⟨h1,h2,h3⟩;simp[h1,h2,h3] at hd
   have hx:=aD2 hcv;have Mu:(Dh x b).length=(dY x b b.rows.length).length+1:=by rw[Sy,hcv];rfl
   simp only[xq,reduceIte,qE,qA,qL,qD];refine wR ?_;simp only[xq,reduceIte,qE,qA,qL,qD,Vw.ds,dA,eE];refine dX (Co.viewLast (r2:=(cc false).ds.map .d) [(0,.yld id),(1,.iptr b.ds),(7,.ptr h'.length 1 0 0)] (by simp[cJ,cK,Vw.ds]) rfl ?_) ?_
   ·intro j y hj;rcases j with _ | _ | _ | _ | _ | _ | j
    ·cases hj;exact .inl rfl
    ·cases hj;exact .inl rfl
    ·cases hj;exact .inl rfl
    ·cases hj;exact .inl rfl
    ·cases hj;exact .inl rfl
    ·cases hj;exact .inr ⟨.nil _,_,rfl⟩
    ·simp[cc,Cg.ds] at hj
   refine eJ (· = ⟨dB [(0,.yld id),(7,.ptr h'.length 1 0 0)],h'++[iA (cc b.vis)]⟩) ?_ ?_
   ·refine wR ?_;simp only[xq,reduceIte,qE,qA,qL,qD,Vw.ds];refine cL rfl (fun hb=>?_) (fun hb=>cQ ?_)
    ·rw[hb];refine cU ?_;simp only[xq,reduceIte,qE,qA,qL,qD,dA,eE,cc,Cg.ds];exact⟨_,Co.keep _ (by simp[cJ,cK]),rfl⟩
    ·rw[hb];exact⟨rfl,_,Co.keep _ (by simp[cJ,cK]),rfl⟩
   rintro _ rfl;have Ta:=Turn.app T.has [iA (cc b.vis)];have Dy:bb≤(h'++[iA (cc b.vis)]).length:=by have:=T.len;simp;omega
   generalize cc b.vis=c at hx Ta Dy;rcases rounds _ _ L' _ hx hI' Ta.has Dy with⟨L2,h2,hR,T2,hI2⟩ | ⟨L2,h2,hR,T2,hE2⟩
   ·simp only[pG,Cg.ds,zU,zV] at hR;refine cU ?_;simp only[xq,reduceIte,qE,qA,qL,qD,dA,Cg.ds];refine wL hR ?_;simp only[xq,reduceIte,qE,qA,qL,qD];refine⟨.inl trivial,?_⟩;simp only[dK];exact⟨L2,T.trans (Ta.trans T2),.inl (by rw[Mu];exact hI2)⟩
   ·simp only[pG,Cg.ds,zU,zV] at hR;refine cU ?_;simp only[xq,reduceIte,qE,qA,qL,qD,dA,Cg.ds];refine wL hR ?_;simp only[xq,reduceIte,qE,qA,qL,qD];refine⟨.inl trivial,?_⟩;simp only[dK];exact⟨L2,T.trans (Ta.trans T2),.inr hE2⟩
end
section
variable {P:Program}{N:Nat}{Γ:dP}
theorem aCk{f:FuncId}(H:FnIs P f N [.t 4] kS)(hN:2≤N)(a b:Vw):FnP Γ P f [fF a,fF b] (.bool (lM a b)):=by
 refine .of_W H (by simpa using hN) ?_;unfold kS;simp only[fF,Vw.ds,zU,zV];refine wR ?_;simp only[xq,reduceIte,qE,qA,qL,qD];unfold lM;cases e1:decide (a.height=b.height)
 ·refine wR ?_;simp only[xq,reduceIte,qE,qA,qL,qD,e1,cV,zE,cW];refine cT (.tmp ?_ rfl);simp only[cJ,reduceIte,Bool.false_and]
 ·cases e2:decide ((a.rows.length:Int)=a.height)
  ·refine wR ?_;simp only[xq,reduceIte,qE,qA,qL,qD,e1,e2,cV,zE,cW];refine cT (.tmp ?_ rfl);simp only[cJ,reduceIte,Bool.false_and,Bool.and_false]
  ·refine wR ?_;simp only[xq,reduceIte,qE,qA,qL,qD,e1,e2,cV,zE,cW];refine cT (.tmp ?_ rfl);simp only[cJ,reduceIte,Bool.true_and]
theorem aGH{f fe:FuncId}(H:FnIs P f N [.t 4] (kW fe))(hN:2≤N)(He:∀ a b:List Gl,FnP Γ P fe [.d (.sl dW (cP a)),.d (.sl dW (cP b))] (.bool (decide (a=b))))(a b:List Gl) :
  FnP Γ P f [.d (.sl dW (cP a)),.d (.sl dW (cP b))] (.bool (decide (a=b))):=by
 refine .of_W H (by simpa using hN) ?_;unfold kW;refine wR ?_;simp only[xq,reduceIte,qE,qA,qL,qD];refine wR ?_;simp only[xq,reduceIte,qE,qA,qL,qD];refine dF (He a b) rfl ?_;simp only[xq,reduceIte,qE,qA,qL,qD];refine cT (.tmp ?_ rfl);simp only[cJ,reduceIte]
abbrev vT(Γ:dP)(P:Program)(f:FuncId):Prop:=∀ a b:List Gl,FnP Γ P f [.d (.sl dW (cP a)),.d (.sl dW (cP b))] (.bool (decide (a=b)))
theorem aIP{f fe:FuncId}(H:FnIs P f N [.t 4] (jX fe))(hN:3≤N)(He:vT Γ P fe)(a b:Vw)(i:Nat)(ha:i<a.rows.length)(hb:i<b.rows.length) :
  FnP Γ P f [.int i,.iptr a.ds,.iptr b.ds] (.bool (decide (a.rows.getD i []=b.rows.getD i []))):=by
 refine .of_W H (by simpa using hN) ?_;have ga:a.rows.getD i []=a.rows[i]:=by rw[zC,zB ha];rfl
 have gb:b.rows.getD i []=b.rows[i]:=by rw[zC,zB hb];rfl
 unfold jX;refine wR ?_;simp only[xq,reduceIte,qE,qA,qL,qD];refine cN (eD (by simp) ?_);simp only[xq,reduceIte,qE,qA,qL,qD,zr,zP,Vw.ds,cW,eC ha,eC hb,zQ];refine⟨by omega,by omega,by omega,by omega,?_⟩;refine dF (He a.rows[i] b.rows[i]) rfl ?_;simp only[xq,reduceIte,qE,qA,qL,qD];refine cT (.tmp ?_ rfl);simp only[cJ,reduceIte,ga,gb]
theorem aIQ{f fe:FuncId}(H:FnIs P f N [.t 7] (jW fe))(hN:6≤N)(He:vT Γ P fe)(a b:Vw)(top bot y:Int)(i:Nat)(hb:i<b.rows.length)(ht:0≤top)(hbo:bot≤a.rows.length)(Qd:b.rows.length≤1000)(hy : -1000≤y∧y≤1000) :
  FnP Γ P f [.int i,.iptr [.sc (.int .i64 y)],.iptr [.sc (.int .i64 top)],.iptr [.sc (.int .i64 bot)],.iptr a.ds,.iptr b.ds] (.bool (Fq a.rows b.rows top bot y i)):=by
 refine .of_W H (by simpa using hN) ?_;have gb:b.rows.getD i []=b.rows[i]:=by rw[zC,zB hb];rfl
 have w1:IntKind.i64.wrap ((i:Int)+y)=(i:Int)+y:=cX (by omega);unfold jW;refine wR ?_;simp only[xq,reduceIte,qE,qA,qL,qD];refine cN ?_;refine wR ?_;simp only[xq,reduceIte,qE,qA,qL,qD,w1];let S:Bool→St:=fun c=>⟨dB [(0,.int i),(4,.iptr a.ds),(5,.iptr b.ds),(8,.int ((i:Int)+y)),(19,.bool c)],[]⟩;refine eJ (· = S (decide (top≤(i:Int)+y)&&decide ((i:Int)+y<bot))) (cU ?_) ?_
 ·cases e1:decide (top≤(i:Int)+y)
  ·simp only[xq,reduceIte,qE,qA,qL,qD,e1,cV,zE];exact⟨_,Co.keep _ (by simp[cJ,cK]),rfl⟩
  ·simp only[xq,reduceIte,qE,qA,qL,qD,e1,cV,zE];exact⟨_,Co.keep _ (by simp[cJ,cK]),rfl⟩
 rintro _ rfl;simp only[S];refine cL rfl (fun hd=>?_) (fun hd=>cQ ?_)
 ·have hd:top≤(i:Int)+y∧(i:Int)+y<bot:=by simpa using hd
  obtain⟨k,hk⟩:∃ k:Nat,(i:Int)+y=k:=⟨((i:Int)+y).toNat,by omega⟩;have hka:k<a.rows.length:=by omega
  have ga:iD a.rows ((i:Int)+y)=a.rows[k]:=by rw[iD,hk,zQ,zC,zB hka];rfl
  rw[Fq,if_pos hd,ga,gb];refine cN (eD (by simp) ?_);simp only[xq,reduceIte,qE,qA,qL,qD,zr,zP,Vw.ds,hk,cW,eC hka,eC hb,zQ];refine⟨by omega,by omega,by omega,by omega,?_⟩;refine dF (He a.rows[k] b.rows[i]) rfl ?_;simp only[xq,reduceIte,qE,qA,qL,qD];refine cT (.tmp ?_ rfl);simp only[cJ,reduceIte]
 ·have hd:¬ (top≤(i:Int)+y∧(i:Int)+y<bot):=by simpa using hd
  rw[Fq,if_neg hd,gb];simp only[xq,reduceIte,qE,qA,qL,qD];refine wR ?_;simp only[xq,reduceIte,qE,qA,qL,qD,Vw.ds,cW,eC hb,zQ,cR];refine⟨by omega,by omega,?_⟩;refine cT (.tmp ?_ rfl);simp only[cJ,reduceIte];congr 1;rw[decide_eq_decide];constructor
  ·intro h;exact zx (by omega)
  ·intro h;rw[h];rfl
theorem vC(p:Nat→Bool)(t:Nat):∀ k,0≤jR p t k∧jR p t k≤k
 | 0=>by simp[jR]
 | k+1=>by
  have:=vC p t k;rw[jR];split<;>omega
theorem aIR{f g:FuncId}{caps:List A}(H:FnIs P f N [.t 6] kV)(hN:3≤N)(top bot:Nat)(hb:bot≤1000)(htb:top≤bot)(p:Nat→Bool)(h0:A.underL 0 caps=true)
  (Hg:∀ i:Nat,top≤i→i<bot→FnP Γ P g ([.int i]++caps) (.bool (p i))):FnP Γ P f [.int top,.int bot,.fn g caps] (.int (jR p top (bot-top))):=by
 refine .of_W H (by simpa using hN) ?_;unfold kV;refine wR ?_;simp only[xq,reduceIte,qE,qA,qL,qD];refine wR ?_;simp only[xq,reduceIte,qE,qA,qL,qD];refine cN ?_;refine wR ?_;simp only[xq,reduceIte,qE,qA,qL,qD];refine cS ?_;let S:Nat→St:=fun k=>⟨dB [(1,.int bot),(2,.fn g caps),(7,.int (jR p top k)),(8,.int ((top+k:Nat):Int))],[]⟩;refine dX (s':=S 0) (Co.keep _ (by simp[cJ,cK,jR])) ?_;refine dN (fun m s=>∃ k,top+k≤bot∧m=bot-(top+k)∧s=S k) ⟨0,by omega,rfl,rfl⟩ ?_;rintro m s ⟨k,hk,rfl,rfl⟩;have hcb:=vC p top k;simp only[S];refine cN ?_;refine wR ?_;simp only[xq,reduceIte,qE,qA,qL,qD];refine cL rfl (fun hc=>cQ ?_) (fun hc=>dJ ?_)
 ·have cY:top+k<bot:=by simp only[decide_eq_true_eq] at hc;omega
  have w1:IntKind.i64.wrap (((top+k:Nat):Int)+1)=((top+(k+1):Nat):Int):=by rw[cX (by omega)];omega
  have w2:IntKind.i64.wrap (jR p top k+1)=jR p top k+1:=cX (by omega);simp only[xq,reduceIte,qE,qA,qL,qD];refine cN (cS ?_);refine wR ?_;simp only[xq,reduceIte,qE,qA,qL,qD];refine aIf (Hg (top+k) (by omega) cY) (by simp[A.underL,A.under,h0]) ?_;simp only[xq,reduceIte,qE,qA,qL,qD];refine cL rfl (fun hd=>?_) (fun hd=>cQ ?_)
  ·have Pl:jR p top (k+1)=jR p top k+1:=by rw[jR,hd];rfl
   refine cU ?_;simp only[xq,reduceIte,qE,qA,qL,qD,w2];refine cU ?_;simp only[xq,reduceIte,qE,qA,qL,qD,w1];exact⟨bot-(top+(k+1)),S (k+1),by omega,Co.keep _ (by simp[cJ,cK,Pl]),k+1,cY,rfl,rfl⟩
  ·have Pl:jR p top (k+1)=jR p top k:=by rw[jR,hd];simp
   simp only[xq,reduceIte,qE,qA,qL,qD];refine cU ?_;simp only[xq,reduceIte,qE,qA,qL,qD,w1];exact⟨bot-(top+(k+1)),S (k+1),by omega,Co.keep _ (by simp[cJ,cK,Pl]),k+1,cY,rfl,rfl⟩
 ·have gZ:k=bot-top:=by simp only[decide_eq_false_iff_not] at hc;omega
  subst gZ;simp only[xq,reduceIte,qE,qA,qL,qD];refine wR ?_;simp only[xq,reduceIte,qE,qA,qL,qD];refine cT (.tmp ?_ rfl);simp only[cJ,reduceIte]
theorem aLf{f f1 fc f2:FuncId}(H:FnIs P f N [.t 10] (lQ f1 fc f2))(hN:5≤N)(a b:Vw)(top bot:Nat)(y:Int)(Qd:b.rows.length≤1000)(Xf:a.rows.length=b.rows.length)(htb:top≤bot)(hbo:bot≤a.rows.length)(hy : -1000≤y∧y≤1000)
  (H1:∀ i:Nat,i<b.rows.length→FnP Γ P f1 [.int i,.iptr [.sc (.int .i64 y)],.iptr [.sc (.int .i64 top)],.iptr [.sc (.int .i64 bot)],.iptr a.ds,.iptr b.ds] (.bool (Fq a.rows b.rows top bot y i)))
  (H2:∀ i:Nat,i<b.rows.length→FnP Γ P f2 [.int i,.iptr a.ds,.iptr b.ds] (.bool (decide (a.rows.getD i []=b.rows.getD i []))))
  (Hc:∀ (g:FuncId) (caps:List A) (p:Nat→Bool),A.underL 0 caps=true→(∀ i:Nat,top≤i→i<bot→FnP Γ P g ([.int i]++caps) (.bool (p i)))→FnP Γ P fc [.int top,.int bot,.fn g caps] (.int (jR p top (bot-top)))) :
  FnP Γ P f [fF a,fF b,.int top,.int bot,.int y] (.int (pY a.rows b.rows top bot y)):=by
 refine .of_W H (by simpa using hN) ?_;have c1:=Hc f1 [.iptr [.sc (.int .i64 y)],.iptr [.sc (.int .i64 top)],.iptr [.sc (.int .i64 bot)],.iptr a.ds,.iptr b.ds] (Fq a.rows b.rows top bot y) rfl (fun i _ hi=>H1 i (by omega));have c2:=Hc f2 [.iptr a.ds,.iptr b.ds] (fun i=>decide (a.rows.getD i []=b.rows.getD i [])) rfl (fun i _ hi=>H2 i (by omega));have b1:=vC (Fq a.rows b.rows top bot y) top (bot-top);have b2:=vC (fun i=>decide (a.rows.getD i []=b.rows.getD i [])) top (bot-top);have hg:pY a.rows b.rows top bot y=jR (Fq a.rows b.rows top bot y) top (bot-top)-jR (fun i=>decide (a.rows.getD i []=b.rows.getD i [])) top (bot-top):=by
  rw[pY,zQ,show((bot:Int)-(top:Int)).toNat=bot-top by omega]
 rw[hg];generalize jR (Fq a.rows b.rows top bot y) top (bot-top)=n1 at *;generalize jR (fun i=>decide (a.rows.getD i []=b.rows.getD i [])) top (bot-top)=n2 at *;have w1:IntKind.i64.wrap (n1-n2)=n1-n2:=cX (by omega);unfold lQ;simp only[fF,Vw.ds,zU,zV];refine wR ?_;simp only[xq,reduceIte,qE,qA,qL,qD];let S:St:=⟨dB [(5,.iptr a.ds),(6,.iptr b.ds),(7,.iptr [.sc (.int .i64 top)]),(8,.iptr [.sc (.int .i64 bot)]),(9,.iptr [.sc (.int .i64 y)])],[]⟩;refine dX (s':=S) (Co.frz _ 0 ?_ (zI _) (zI _) u0) ?_
 ·intro p hp;simp only[zp,aA,or_false] at hp;rcases hp with rfl | rfl | rfl | rfl | rfl
  ·exact kX (zI _) (e:=pA) (ds:=a.ds) rfl
  ·exact kX (zI _) (e:=pA) (ds:=b.ds) rfl
  ·exact kX (zI _) (e:=fL) (ds:=[.sc (.int .i64 top)]) rfl
  ·exact kX (zI _) (e:=fL) (ds:=[.sc (.int .i64 bot)]) rfl
  ·exact kX (zI _) (e:=fL) (ds:=[.sc (.int .i64 y)]) rfl
 simp only[S];refine wR ?_;simp only[xq,reduceIte,qE,qA,qL,qD];refine dF (c1) rfl ?_;simp only[xq,reduceIte,qE,qA,qL,qD];refine wR ?_;simp only[xq,reduceIte,qE,qA,qL,qD];refine dF (c2) rfl ?_;simp only[xq,reduceIte,qE,qA,qL,qD,w1];refine cT (.tmp ?_ rfl);simp only[cJ,reduceIte]
end
section
variable {P:Program}{N:Nat}{Γ:dP}
def Cand.ds(c:Cand):List D:=[.sc (.int .i64 c.gain),.sc (.int .i64 c.top),.sc (.int .i64 c.bot),.sc (.int .i64 c.by')]
def caA(c:Cand):A:=.agg (c.ds.map .d)
abbrev caB(c:Cand):HB:=.cells ⟨4,32⟩ [c.ds.map .d]
theorem aL6(c d:Cand):((c.gain == d.gain)&&((c.top == d.top)&&((c.bot == d.bot)&&(c.by' == d.by'))))=decide (c=d):=by
 cases c;cases d;rw[Bool.eq_iff_iff];simp
theorem aIS(c:Cand):((c.gain == 0)&&((c.top == 0)&&((c.bot == 0)&&(c.by' == 0))))=decide (c=sA):=aL6 c sA
theorem aD3{y:Int}:eB true y (0-y)=iP y:=by
 unfold eB iP;simp only[if_true];split<;>omega
theorem Sz{v:Vw}{k:Nat}:HB.under k (fX v):=by
 intro r hr x hx;simp only[aB] at hr;subst hr;obtain⟨d,_,rfl⟩:=List.mem_map.1 hx;rfl
theorem aGI{c:Cand}{k:Nat}:HB.under k (caB c):=by
 intro r hr x hx;simp only[aB] at hr;subst hr;obtain⟨d,_,rfl⟩:=List.mem_map.1 hx;rfl
theorem aGJ{f:FuncId}(H:FnIs P f N [.t 4] gH)(hN:2≤N)(c d:Cand)(hc : -1000≤c.by'∧c.by'≤1000)(hd : -1000≤d.by'∧d.by'≤1000):FnP Γ P f [caA c,caA d] (.bool (mI c d)):=by
 refine .of_W H (by simpa using hN) ?_;have w1:IntKind.i64.wrap (0-c.by')=0-c.by':=cX (by omega);have w2:IntKind.i64.wrap (0-d.by')=0-d.by':=cX (by omega);unfold gH;simp only[caA,Cand.ds,zU,zV];refine wR ?_;simp only[xq,reduceIte,qE,qA,qL,qD];refine cN (cS ?_);refine wR ?_;simp only[xq,reduceIte,qE,qA,qL,qD,aL6]
 repeat refine aH (by omega) ?_
 refine cL rfl (fun h0=>?_) (fun h0=>?_)
 ·have h0:=of_decide_eq_true h0;refine wR ?_;simp only[xq,reduceIte,qE,qA,qL,qD];refine cT ?_;simp only[xq,reduceIte,qE,qA,qL,qD];refine .tmp ?_ rfl;simp only[cJ,reduceIte,mI,if_pos h0]
 have h0:=of_decide_eq_false h0;refine wR ?_;simp only[xq,reduceIte,qE,qA,qL,qD];refine cL rfl (fun h1=>?_) (fun h1=>?_)
 ·have h1:c.gain≠d.gain:=by simpa using h1
  refine wR ?_;simp only[xq,reduceIte,qE,qA,qL,qD];refine cT ?_;simp only[xq,reduceIte,qE,qA,qL,qD];refine .tmp ?_ rfl;simp only[cJ,reduceIte,mI,if_neg h0,if_pos h1]
 have h1:¬ c.gain≠d.gain:=by simpa using h1
 refine wR ?_;simp only[xq,reduceIte,qE,qA,qL,qD,w1,w2,aD3];refine cL rfl (fun h2=>?_) (fun h2=>?_)
 ·have h2:iP c.by'≠iP d.by':=by simpa using h2
  refine wR ?_;simp only[xq,reduceIte,qE,qA,qL,qD,w1,w2,aD3];refine cT ?_;simp only[xq,reduceIte,qE,qA,qL,qD];refine .tmp ?_ rfl;simp only[cJ,reduceIte,mI,if_neg h0,if_neg h1,if_pos h2]
 have h2:¬ iP c.by'≠iP d.by':=by simpa using h2
 refine wR ?_;simp only[xq,reduceIte,qE,qA,qL,qD];refine cL rfl (fun h3=>?_) (fun h3=>?_)
 ·have h3:c.by'≠d.by':=by simpa using h3
  refine wR ?_;simp only[xq,reduceIte,qE,qA,qL,qD];refine cT ?_;simp only[xq,reduceIte,qE,qA,qL,qD];refine .tmp ?_ rfl;simp only[cJ,reduceIte,mI,if_neg h0,if_neg h1,if_neg h2,if_pos h3]
 have h3:¬ c.by'≠d.by':=by simpa using h3
 refine wR ?_;simp only[xq,reduceIte,qE,qA,qL,qD];refine cL rfl (fun h4=>?_) (fun h4=>cQ ?_)
 ·have h4:c.top≠d.top:=by simpa using h4
  refine wR ?_;simp only[xq,reduceIte,qE,qA,qL,qD];refine cT ?_;simp only[xq,reduceIte,qE,qA,qL,qD];refine .tmp ?_ rfl;simp only[cJ,reduceIte,mI,if_neg h0,if_neg h1,if_neg h2,if_neg h3,if_pos h4]
 have h4:¬ c.top≠d.top:=by simpa using h4
 simp only[xq,reduceIte,qE,qA,qL,qD];refine wR ?_;simp only[xq,reduceIte,qE,qA,qL,qD];refine cT (.tmp ?_ rfl);simp only[cJ,reduceIte,mI,if_neg h0,if_neg h1,if_neg h2,if_neg h3,if_neg h4]
def Ls(c:Cand):Prop := -1000≤c.by'∧c.by'≤1000
def Kb(a b:List (List Gl))(y top:Int)(best:Cand)(bot:Int):Bool:=decide (2≤pY a b top bot y)&&(decide (best=sA)||mI ⟨pY a b top bot y,top,bot,y⟩ best)
theorem aIT{a b:List (List Gl)}{y top bot:Int}{best:Cand}:Yt a b y top best bot=if Kb a b y top best bot=true then⟨pY a b top bot y,top,bot,y⟩ else best:=by
 unfold Yt Kb;congr 1;simp only[zf,Bool.or_eq_true,decide_eq_true_eq]
def aCl(x:Cg × Bool):A:=.tup [pG x.1,.bool x.2]
abbrev aNA(Γ:dP)(P:Program)(f:FuncId)(a b:Vw):Prop:=∀ (top bot:Nat) (y:Int),top≤bot→bot≤a.rows.length → -1000≤y∧y≤1000→FnP Γ P f [fF a,fF b,.int top,.int bot,.int y] (.int (pY a.rows b.rows top bot y))
theorem aLg{f fm fg fb:FuncId}(H:FnIs P f N [.c 4 6 true,.t 5] (lO fm fg fb))(hN:2≤N)(a b:Vw)(hal:a.rows.length≤1000)(Hm:FnP Γ P fm [fF a,fF b] (.bool (lM a b)))
  (Hg:lM a b=true→aNA Γ P fg a b) (Hb:∀ c d:Cand,Ls c→Ls d→FnP Γ P fb [caA c,caA d] (.bool (mI c d))) :
  FnP Γ P f [fF a,fF b] (aCl (gJ a b)):=by
 refine .of_W H (by simpa using hN) ?_;unfold lO;have hm0:=Hm;simp only[fF,Vw.ds,zU,zV] at hm0 ⊢;refine wR ?_;simp only[xq,reduceIte,qE,qA,qL,qD];refine cN ?_;refine wR ?_;simp only[xq,reduceIte,qE,qA,qL,qD];refine dF (hm0) rfl ?_;simp only[xq,reduceIte,qE,qA,qL,qD];refine cL rfl (fun hk=>?_) (fun hk=>cQ ?_)
 ·have hk:lM a b=false:=by simpa using hk
  refine wR ?_;simp only[xq,reduceIte,qE,qA,qL,qD];refine cT ⟨.inr rfl,?_⟩;simp only[dK,eH,dM,cJ,reduceIte,qE,cK,gQ,xq,reduceIte,qE,qA,qL,qD,dI];rw[gJ,if_neg (by rw[hk];decide)];refine aCe (.agg rfl fun j y hj=>?_) (.same rfl);rcases j with _ | _ | _ | _ | _ | _ | j
  ·cases hj;exact .same rfl
  ·cases hj;exact .same rfl
  ·cases hj;exact .same rfl
  ·cases hj;exact .same rfl
  ·cases hj;exact .same rfl
  ·cases hj;exact .d (.nil _)
  ·simp[Cg.ds] at hj
 have hk:lM a b=true:=by simpa using hk
 have Hg:=Hg hk;simp only[xq,reduceIte,qE,qA,qL,qD];refine wR ?_;simp only[xq,reduceIte,qE,qA,qL,qD,cW];refine wR ?_;simp only[xq,reduceIte,qE,qA,qL,qD];obtain⟨n,hn⟩:∃ n,n=a.rows.length:=⟨_,rfl⟩;rw[← hn] at hal;let zc:HB:=.cells Bp [[.int 0,.int 0,.int 0,.int 0,.int 0,.nil]];let Hp:Cand→cM:=fun c=>[fX a,fX b,zc,caB c];have huH:∀ c,∀ B∈Hp c,HB.under 4 B:=by
  intro c B hB;simp only[Hp,zp,aA,or_false] at hB;rcases hB with rfl | rfl | rfl | rfl
  ·exact Sz
  ·exact Sz
  ·intro r hr x hx;simp only[aB] at hr;subst hr;simp only[zp,aA,or_false] at hx;rcases hx with rfl | rfl | rfl | rfl | rfl | rfl<;>rfl
  ·exact aGI
 have tr:∀ (l:List (Nat × A)) (sl:Nat→A) (c:Cand) (t:cM),(∀ p∈l,sl p.1=p.2∧p.2.under 4=true)→Co 0 ⟨sl,Hp c++t⟩ ⟨dB l,Hp c⟩:=fun l sl c t hl=>by
  have:=Co.to (n0:=0) (s:=⟨sl,Hp c++t⟩) l 4 hl (zI _) (by simp[Hp]) (by simpa[Hp] using huH c);simpa[Hp] using this
 let base:List (Nat × A):=[(2,.ptr 0 1 0 0),(3,.ptr 1 1 0 0),(4,.ptr 2 1 0 0),(6,.int n),(7,.ptr 3 1 0 0)];refine eJ (· = ⟨dB [(4,.ptr 2 1 0 0),(7,.ptr 3 1 0 0)],Hp (qM a.rows b.rows n)⟩) ?_ ?_
 ·have w0:IntKind.i64.wrap (1-(n:Int))=1-(n:Int):=cX (by omega);refine wR ?_;simp only[xq,reduceIte,qE,qA,qL,qD,← hn,w0];refine cS ?_;let S1:Int→Cand→St:=fun y c=>⟨dB ((8,.int y)::base),Hp c⟩;refine dX (s':=S1 (1-n) sA) (Co.keep _ (by simp[base,cJ,cK,← hn])) ?_;refine dN (fun m s=>∃ y c,m=((n:Int)-y).toNat∧s=S1 y c∧Ls c∧1-(n:Int)≤y∧(y≤n∨n=0)∧byC a.rows b.rows n ((n:Int)-y).toNat y c=qM a.rows b.rows n) ⟨1-n,sA,rfl,rfl,⟨by simp[sA],by simp[sA]⟩,by omega,by omega,by rw[qM,show((n:Int)-(1-n)).toNat=2 * n-1 by omega]⟩ ?_;rintro m s ⟨y,c,rfl,rfl,Xh,hy1,hy2,hby⟩;simp only[S1,base];refine cN ?_;refine wR ?_;simp only[xq,reduceIte,qE,qA,qL,qD];refine cL rfl (fun hc=>cQ ?_) (fun hc=>dJ ?_)
  ·have cY:y<n:=of_decide_eq_true hc;obtain⟨r,hr⟩:∃ r,((n:Int)-y).toNat=r+1:=⟨((n:Int)-y).toNat-1,by omega⟩;rw[hr,byC] at hby;have wy:IntKind.i64.wrap (y+1)=y+1:=cX (by omega);simp only[xq,reduceIte,qE,qA,qL,qD];refine cN (cS ?_);refine wR ?_;simp only[xq,reduceIte,qE,qA,qL,qD];refine cS ?_;let S2:Nat→Cand→St:=fun t c=>⟨dB ((27,.int n)::(28,.int t)::(8,.int y)::base),Hp c⟩;refine dX (s':=S2 0 c) (Co.keep _ (by simp[base,cJ,cK])) ?_;obtain⟨fin,qH⟩:∃ fin,fin=Wd a.rows b.rows n y n 0 c:=⟨_,rfl⟩;rw[← qH] at hby;refine dN (fun m s=>∃ t c,t≤n∧m=n-t∧s=S2 t c∧Ls c∧Wd a.rows b.rows n y (n-t) t c=fin) ⟨0,c,zI _,rfl,rfl,Xh,by rw[qH];rfl⟩ ?_;clear Xh qH c;rintro m s ⟨t,c,ht,rfl,rfl,Xh,aHD⟩;simp only[S2,base];refine wR ?_;simp only[xq,reduceIte,qE,qA,qL,qD];refine cN (cL rfl (fun hc=>cQ ?_) (fun hc=>dJ ?_))
   ·have aC4:t<n:=by simpa using hc
    obtain⟨r2,hr2⟩:∃ r,n-t=r+1:=⟨n-t-1,by omega⟩;rw[hr2,Wd] at aHD;have wt:IntKind.i64.wrap ((t:Int)+1)=((t+1:Nat):Int):=by rw[cX (by omega)];omega
    have wn:IntKind.i64.wrap (0-y)=0-y:=cX (by omega);have ha:0≤iP y∧iP y≤1000:=by unfold iP;omega
    have wa:IntKind.i64.wrap ((t:Int)+iP y)=(t:Int)+iP y:=cX (by omega);have wb:IntKind.i64.wrap ((t:Int)+iP y+1)=(t:Int)+iP y+1:=cX (by omega);obtain⟨bt,hbt⟩:∃ bt:Nat,(t:Int)+iP y+1=bt:=⟨((t:Int)+iP y+1).toNat,by omega⟩;simp only[xq,reduceIte,qE,qA,qL,qD];refine cN (cS ?_);refine wR ?_;simp only[xq,reduceIte,qE,qA,qL,qD];refine wR ?_;simp only[xq,reduceIte,qE,qA,qL,qD,wn,aD3,wa,wb];refine cS ?_;let S3:Nat→Cand→St:=fun u c=>⟨dB ((27,.int n)::(28,.int t)::(8,.int y)::(9,.int t)::(10,.int u)::base),Hp c⟩;refine dX (s':=S3 bt c) (Co.keep _ (by simp[base,cJ,cK,hbt])) ?_;obtain⟨fin2,aJ1⟩:∃ fin,fin=(if y=0 then c else Oz a.rows b.rows y t ((n:Int)+1-((t:Int)+iP y+1)).toNat ((t:Int)+iP y+1) c):=⟨_,rfl⟩;rw[← aJ1] at aHD;have ht0:t+1≤bt:=by omega
    refine dN (fun m s=>∃ u c,t+1≤u∧m=n+1-u∧s=S3 u c∧Ls c∧(if y=0 then c else Oz a.rows b.rows y t ((n:Int)+1-u).toNat u c)=fin2) ⟨bt,c,ht0,rfl,rfl,Xh,by rw[aJ1,hbt]⟩ ?_;clear Xh aJ1 hbt ht0 c;rintro m s ⟨u,c,hu,rfl,rfl,Xh,aA0⟩;simp only[S3,base];let T3:Bool→St:=fun z=>⟨dB ((44,.bool z)::(27,.int n)::(28,.int t)::(8,.int y)::(9,.int t)::(10,.int u)::base),Hp c⟩;refine cN (eJ (· = T3 (!decide (y=0)&&decide ((u:Int)≤n))) (cU ?_) ?_)
    ·cases e1:decide (y=0)
     ·simp only[xq,reduceIte,qE,qA,qL,qD,e1,cV,zE];exact⟨_,Co.keep _ (by simp[base,cJ,cK]),rfl⟩
     ·simp only[xq,reduceIte,qE,qA,qL,qD,e1,cV,zE];exact⟨_,Co.keep _ (by simp[base,cJ,cK]),rfl⟩
    rintro _ rfl;simp only[T3,base];refine cL rfl (fun hc=>cQ ?_) (fun hc=>dJ ?_)
    ·obtain⟨hy0,hun⟩:¬ y=0∧u≤n:=by
      simp only[zf,Bool.not_eq_true',decide_eq_false_iff_not,decide_eq_true_eq] at hc;exact⟨hc.1,by omega⟩
     obtain⟨r3,hr3⟩:∃ r,((n:Int)+1-u).toNat=r+1:=⟨((n:Int)+1-u).toNat-1,by omega⟩;rw[if_neg hy0,hr3,Oz,aIT] at aA0;have wu:IntKind.i64.wrap ((u:Int)+1)=((u+1:Nat):Int):=by rw[cX (by omega)];omega
     have hG:=Hg t u y (by omega) (by omega) (by omega);simp only[fF,Vw.ds,zU,zV] at hG;obtain⟨g,hgd⟩:∃ g,g=pY a.rows b.rows t u y:=⟨_,rfl⟩;obtain⟨cc,Ij⟩:∃ cc:Bool,cc=Kb a.rows b.rows y t c u:=⟨_,rfl⟩;have aN3:=Ij;rw[Kb] at aN3;rw[← hgd] at hG aA0 aN3;rw[← Ij] at aA0;have Kt:Ls ⟨g,t,u,y⟩:=⟨by simp only;omega,by simp only;omega⟩;have hB:=Hb ⟨g,t,u,y⟩ c Kt Xh;simp only[caA,Cand.ds,zU,zV] at hB;simp only[xq,reduceIte,qE,qA,qL,qD];refine cN (cS ?_);refine wR ?_;simp only[xq,reduceIte,qE,qA,qL,qD,Hp,Vw.ds];refine dF (hG) rfl ?_;simp only[xq,reduceIte,qE,qA,qL,qD];let T4:Bool→St:=fun z=>⟨dB ((69,.bool z)::(11,.ptr 4 1 0 0)::(27,.int n)::(28,.int t)::(8,.int y)::(9,.int t)::(10,.int u)::base),Hp c++[caB ⟨g,t,u,y⟩]⟩;refine eJ (· = T4 cc) (cU ?_) ?_
     ·rw[aN3];cases e1:decide (2≤g)
      ·simp only[xq,reduceIte,qE,qA,qL,qD,e1,cV,zE];exact⟨_,Co.keep _ (by simp[base,cJ,cK]),rfl⟩
      ·cases e2:decide (c=sA)
       ·simp only[xq,reduceIte,qE,qA,qL,qD,e1,Cand.ds,aIS,e2,cV,zE]
        repeat refine aH (by omega) ?_
        refine dF (hB) rfl ?_;simp only[xq,reduceIte,qE,qA,qL,qD,cV,zE];exact⟨_,Co.keep _ (by simp[base,cJ,cK]),rfl⟩
       ·simp only[xq,reduceIte,qE,qA,qL,qD,e1,Cand.ds,aIS,e2,cV,zE]
        repeat refine aH (by omega) ?_
        exact⟨_,Co.keep _ (by simp[base,cJ,cK]),rfl⟩
     rintro _ rfl;simp only[T4,base,Hp];refine cL rfl (fun hz=>?_) (fun hz=>cQ ?_)
     ·rw[hz,if_pos rfl] at aA0;refine cU ?_;simp only[xq,reduceIte,qE,qA,qL,qD,Cand.ds];refine cU ?_;simp only[xq,reduceIte,qE,qA,qL,qD,wu];refine⟨n+1-(u+1),S3 (u+1) ⟨g,t,u,y⟩,by omega,tr _ _ ⟨g,t,u,y⟩ [caB ⟨g,t,u,y⟩] ?_,u+1,_,by omega,rfl,rfl,Kt,?_⟩
      ·simp[base,cJ,cK,A.under]
      ·rw[if_neg hy0,show((n:Int)+1-((u+1:Nat):Int)).toNat=r3 by omega,show((u+1:Nat):Int)=(u:Int)+1 by omega];exact aA0
     ·rw[hz,if_neg (by decide)] at aA0;simp only[xq,reduceIte,qE,qA,qL,qD];refine cU ?_;simp only[xq,reduceIte,qE,qA,qL,qD,wu];refine⟨n+1-(u+1),S3 (u+1) c,by omega,tr _ _ c [caB ⟨g,t,u,y⟩] ?_,u+1,_,by omega,rfl,rfl,Xh,?_⟩
      ·simp[base,cJ,cK,A.under]
      ·rw[if_neg hy0,show((n:Int)+1-((u+1:Nat):Int)).toNat=r3 by omega,show((u+1:Nat):Int)=(u:Int)+1 by omega];exact aA0
    ·have rK:(if y=0 then c else Oz a.rows b.rows y t ((n:Int)+1-u).toNat u c)=c:=by
      simp only[Bool.and_eq_false_iff,Bool.not_eq_false',decide_eq_false_iff_not,decide_eq_true_eq] at hc;split
      ·rfl
      ·rename_i hy0;have:((n:Int)+1-u).toNat=0:=by
        rcases hc with hc | hc
        ·exact absurd hc hy0
        ·omega
       rw[this,Oz]
     rw[rK] at aA0;rw[← aA0] at aHD;simp only[xq,reduceIte,qE,qA,qL,qD];refine cU ?_;simp only[xq,reduceIte,qE,qA,qL,qD,wt];refine⟨n-(t+1),S2 (t+1) c,by omega,Co.keep _ (by simp[base,cJ,cK]),t+1,c,aC4,rfl,rfl,Xh,?_⟩;rw[show n-(t+1)=r2 by omega];exact aHD
   ·have gZ:t=n:=by simp at hc;omega
    subst gZ;rw[Nat.sub_self,Wd] at aHD;rw[← aHD] at hby;simp only[xq,reduceIte,qE,qA,qL,qD];refine cU ?_;simp only[xq,reduceIte,qE,qA,qL,qD,wy];refine⟨((t:Int)-(y+1)).toNat,S1 (y+1) c,by omega,Co.keep _ (by simp[base,cJ,cK]),y+1,c,rfl,rfl,Xh,by omega,by omega,?_⟩;rw[show((t:Int)-(y+1)).toNat=r by omega];exact hby
  ·have vX:¬ y<n:=of_decide_eq_false hc;rw[show((n:Int)-y).toNat=0 by omega,byC] at hby;simp only[xq,reduceIte,qE,qA,qL,qD];exact⟨_,Co.keep [(4,.ptr 2 1 0 0),(7,.ptr 3 1 0 0)] (by simp[cJ,cK]),by rw[hby]⟩
 rintro _ rfl;have hfd:gJ a b=if(qM a.rows b.rows n).gain<2 then(⟨0,0,0,0,0,[]⟩,false) else(⟨2,(qM a.rows b.rows n).top,0,(qM a.rows b.rows n).by',(qM a.rows b.rows n).bot,[]⟩,true):=by
  rw[gJ,if_pos hk,← hn]
 rw[hfd];generalize qM a.rows b.rows n=c;refine cN ?_;refine wR ?_;simp only[xq,reduceIte,qE,qA,qL,qD,Hp,Cand.ds];have frz6:∀ (h:cM) (p q r s t:Int) (z:Bool),FrzA 0 h (.tup [.agg [.int p,.int q,.int r,.int s,.int t,.nil],.bool z]) (aCl (⟨p,q,r,s,t,[]⟩,z)):=fun h p q r s t z=>by
  refine aCe (.agg rfl fun j y hj=>?_) (.same rfl);rcases j with _ | _ | _ | _ | _ | _ | j
  ·cases hj;exact .same rfl
  ·cases hj;exact .same rfl
  ·cases hj;exact .same rfl
  ·cases hj;exact .same rfl
  ·cases hj;exact .same rfl
  ·cases hj;exact .d (.nil _)
  ·simp[Cg.ds] at hj
 refine cL rfl (fun hd=>?_) (fun hd=>cQ ?_)
 ·have hd:=of_decide_eq_true hd;rw[if_pos hd];refine wR ?_;simp only[xq,reduceIte,qE,qA,qL,qD,zc];refine cT ⟨.inr rfl,?_⟩;simp only[dK,eH,dM,cJ,reduceIte,qE,cK,gQ,xq,reduceIte,qE,qA,qL,qD,dI];exact frz6 _ _ _ _ _ _ _
 ·have hd:=of_decide_eq_false hd;rw[if_neg hd];simp only[xq,reduceIte,qE,qA,qL,qD];refine wR ?_;simp only[xq,reduceIte,qE,qA,qL,qD,zc,Cand.ds];refine cT ⟨.inr rfl,?_⟩;simp only[dK,eH,dM,cJ,reduceIte,qE,cK,gQ,xq,reduceIte,qE,qA,qL,qD,dI];exact frz6 _ _ _ _ _ _ _
end
end Go.Proofs.YtlllnjhgjijnkaaGreatDoor.Nx
